/-
  Texts of the proof, part 6.
-/
import Derived.Test.YtejbeeaomokjpaaZA5
import Derived.Test.YtejbeeaomokjpaaChecked
set_option maxRecDepth 10000
namespace Go.Proofs.Ytejbeeaomokjpaa
open Go.Mor Go.ChangeShapes Go.WideShapes Go.ChangeAt Go.RowKit Go.Deep
theorem Try.own : ownKnob Try.prog.godebug = none := by kernel_rfl
theorem Try.laidOut : laidOutB Try.prog = true := by kernel_rfl
theorem array5 {α : Type} {cs : Array α} (h : cs.size = 5) : ∃ c0 c1 c2 c3 c4, cs = #[c0, c1, c2, c3, c4] := by
  obtain ⟨l⟩ := cs
  match l, h with
  | [c0, c1, c2, c3, c4], _ => exact ⟨c0, c1, c2, c3, c4, rfl⟩
theorem list2 {α : Type} {cs : List α} (h : cs.length = 2) : ∃ c0 c1, cs = [c0, c1] := by
  match cs, h with
  | [c0, c1], _ => exact ⟨c0, c1, rfl⟩
theorem list5 {α : Type} {cs : List α} (h : cs.length = 5) : ∃ c0 c1 c2 c3 c4, cs = [c0, c1, c2, c3, c4] := by
  match cs, h with
  | [c0, c1, c2, c3, c4], _ => exact ⟨c0, c1, c2, c3, c4, rfl⟩
theorem list6 {α : Type} {cs : List α} (h : cs.length = 6) : ∃ c0 c1 c2 c3 c4 c5, cs = [c0, c1, c2, c3, c4, c5] := by
  match cs, h with
  | [c0, c1, c2, c3, c4, c5], _ => exact ⟨c0, c1, c2, c3, c4, c5, rfl⟩
def Reach_ {H : Type} (t : TypeId) (d : DataW H) : Prop := ∀ n, n ∈ d.weights Try.prog t → n ≤ reachBytes
theorem len_ok {a k : Nat} (hk : 0 < k) (h : a * k ≤ reachBytes) : LenOk a := by
  have h1 : a * 1 ≤ a * k := Nat.mul_le_mul_left a hk
  have h2 := reachBytes_lt
  unfold LenOk
  omega
theorem weights_all {H : Type} {e : TypeId} {l : List (DataW H)} {d : DataW H} (h : d ∈ l) : ∀ n, n ∈ d.weights Try.prog e → n ∈ DataW.weightsAll Try.prog e l := by
  induction l with
  | nil => cases h
  | cons x l ih =>
    intro n hn
    unfold DataW.weightsAll
    rcases List.mem_cons.1 h with rfl | h
    · exact List.mem_append_left _ hn
    · exact List.mem_append_right _ (ih h n hn)
section
variable {H : Type} {enc : TypeId × Value → H} {w : World} {base : Nat} {spare : Nat → Bool} {held : Bool}
theorem i64_of {t : TypeId} (ht : Try.prog.underlying t = some (.int .i64)) {fuel : Nat} {v : Value} {x : DataW H × List MemPlace} (h : DataW.trod enc Try.prog w base spare held fuel t [v] = some x) : ∃ n, v = .int .i64 n ∧ In64 n := by
  obtain ⟨n, rfl, h1, h2⟩ := int_of ht h
  exact ⟨n, rfl, h1, h2⟩
theorem str_of {t : TypeId} (ht : Try.prog.underlying t = some .string) {fuel : Nat} {v : Value} {x : DataW H × List MemPlace} (h : DataW.trod enc Try.prog w base spare held fuel t [v] = some x) (hz : Reach_ t x.1) : ∃ s, v = .string s ∧ LenOk s.size := by
  obtain ⟨s, h1, h3, _⟩ := DataW.trod_string ht h
  simp at h1
  subst h3
  refine ⟨s, h1, len_ok (k := 1) Nat.one_pos ?_⟩
  have := hz s.data.toList.length (by simp [DataW.weights])
  rw [Nat.mul_one]
  simpa using this
theorem fields_of2 {t : TypeId} {fs : Array Field} (hs : Try.prog.underlying t = some (.struct fs)) (hone : oneCellFields Try.prog fs = true) (hC : Try.prog.cellsOf t = fs.size) {fuel : Nat} {cs : List Value} {x : DataW H × List MemPlace}
    (h : DataW.trod enc Try.prog w base spare held fuel t cs = some x) (hz : Reach_ t x.1) :
    cs.length = fs.size ∧ ∃ n : Nat, ∀ (i : Nat) (f : Field), fs[i]? = some f → ∃ (v : Value) (y : DataW H × List MemPlace), cs[i]? = some v ∧ DataW.trod enc Try.prog w base spare held n f.type [v] = some y ∧ Reach_ f.type y.1 := by
  obtain ⟨xs, n, _, hxe, hlen, hxs, hf⟩ := DataW.trod_struct hs h
  rw [hC] at hlen
  refine ⟨hlen, n, fun i f hi => ?_⟩
  have hlt : i < fs.size := (Array.getElem?_eq_some_iff.1 hi).1
  obtain ⟨ho, hc1⟩ := hone_of hone i f hi
  have h1 := hf i f hi
  rw [ho, hc1, take1_drop cs i undef (by omega)] at h1
  rw [List.getElem?_eq_getElem (by omega : i < xs.length)] at h1
  refine ⟨cs[i]'(by omega), xs[i]'(by omega), List.getElem?_eq_getElem (by omega), ?_, fun m hm => hz m ?_⟩
  · rw [← h1]
    simp [List.getD, List.getElem?_eq_getElem (by omega : i < cs.length)]
  · subst hxe
    simp only [DataW.weights, hs]
    exact DataW.weights_mem_each (j := i) (by rw [List.getElem?_map]; simp [hi]) (by rw [List.getElem?_map, List.getElem?_eq_getElem (by omega)]; rfl) m hm
theorem open_elems {t e : TypeId} {k : Nat} (ht : Try.prog.underlying t = some (.slice e)) (hb : Try.prog.bytesOf e = k) (hk : 0 < k)
    {fuel : Nat} {v : Value} {x : DataW H × List MemPlace} (h : DataW.trod enc Try.prog w base spare held fuel t [v] = some x) (hz : Reach_ t x.1) :
    ∃ A len cap, v = .slice A len cap ∧ LenOk len ∧ ∀ i, i < len → ∃ (ad : Addr) (cs : List Value) (n : Nat) (y : DataW H × List MemPlace), A = some ad ∧ cs.length = Try.prog.cellsOf e ∧
      (∀ (j : Nat) (v : Value), cs[j]? = some v → w.cell? ((ad.add (i * Try.prog.cellsOf e)).add j) = some v) ∧ DataW.trod enc Try.prog w base spare held n e cs = some y ∧ Reach_ e y.1 := by
  rcases DataW.trod_slice ht h with ⟨hcs, _⟩ | ⟨a, len, cap, elems, rest, n, _, hcs, hxe, _, _, _, hel, hx, _⟩
  · simp at hcs
    subst hcs
    exact ⟨none, 0, 0, rfl, by simp [LenOk], fun i hi => absurd hi (Nat.not_lt_zero _)⟩
  · simp at hcs
    subst hcs
    subst hxe
    have hw : ∀ m, m ∈ (elems.map (·.1)).length * 0 :: DataW.weightsAll Try.prog e (elems.map (·.1)) → m ≤ reachBytes := by
      intro m hm
      rcases List.mem_cons.1 hm with rfl | hm
      · omega
      · refine hz m ?_
        simp only [DataW.weights, ht]
        exact List.mem_cons_of_mem _ (List.mem_append_left _ hm)
    refine ⟨some a, len, cap, rfl, ?_, fun i hi => ?_⟩
    · have h1 := hz (((elems.map (·.1)).length + (rest.map (·.1)).length) * Try.prog.bytesOf e) (by simp only [DataW.weights, ht]; exact List.mem_cons_self)
      rw [hb, List.length_map, List.length_map, hel] at h1
      exact len_ok hk (Nat.le_trans (Nat.mul_le_mul_right k (Nat.le_add_right _ _)) h1)
    · have h1 := hx i hi
      rw [List.getElem?_eq_getElem (by omega : i < elems.length)] at h1
      cases hc : w.cells? base (a.add (i * Try.prog.cellsOf e)) (Try.prog.cellsOf e) with
      | none => rw [hc] at h1; cases h1
      | some cs =>
        rw [hc] at h1
        obtain ⟨_, hlen, hcell⟩ := World.cells?_some hc
        refine ⟨a, cs, n, elems[i]'(by omega), rfl, hlen, fun j v hj => ?_, h1, fun m hm => hw m (List.mem_cons_of_mem _ (weights_all (d := (elems[i]'(by omega)).1) ?_ m hm))⟩
        · rw [hcell j (by have := (List.getElem?_eq_some_iff.1 hj).1; omega)]
          exact hj
        · exact List.mem_map.2 ⟨elems[i]'(by omega), List.getElem_mem _, rfl⟩
theorem open_structs2 {t e : TypeId} {k : Nat} {fs : Array Field} (ht : Try.prog.underlying t = some (.slice e)) (hs : Try.prog.underlying e = some (.struct fs)) (hone : oneCellFields Try.prog fs = true) (hC : Try.prog.cellsOf e = fs.size) (hb : Try.prog.bytesOf e = k) (hk : 0 < k)
    {fuel : Nat} {v : Value} {x : DataW H × List MemPlace} (h : DataW.trod enc Try.prog w base spare held fuel t [v] = some x) (hz : Reach_ t x.1) :
    ∃ A len cap, v = .slice A len cap ∧ LenOk len ∧ ∀ i, i < len → ∃ (ad : Addr) (cs : List Value), A = some ad ∧ cs.length = fs.size ∧
      (∀ (j : Nat) (v : Value), cs[j]? = some v → w.cell? ((ad.add (i * fs.size)).add j) = some v) ∧ ∃ n : Nat, ∀ (j : Nat) (f : Field), fs[j]? = some f → ∃ (v : Value) (y : DataW H × List MemPlace), cs[j]? = some v ∧ DataW.trod enc Try.prog w base spare held n f.type [v] = some y ∧ Reach_ f.type y.1 := by
  obtain ⟨A, len, cap, rfl, hl, hx⟩ := open_elems ht hb hk h hz
  refine ⟨A, len, cap, rfl, hl, fun i hi => ?_⟩
  obtain ⟨ad, cs, n, y, hA, hlen, hc, htr, hy⟩ := hx i hi
  rw [hC] at hlen hc
  exact ⟨ad, cs, hA, hlen, hc, (fields_of2 hs hone hC htr hy).2⟩
theorem open_nums {fuel : Nat} {v : Value} {x : DataW H × List MemPlace} (h : DataW.trod enc Try.prog w base spare held fuel 37 [v] = some x) (hz : Reach_ 37 x.1) :
    ∃ A l c, v = .slice A (List.length l) c ∧ LenOk l.length ∧ (∀ x, x ∈ l → In64 x) ∧ (Res.rd A (ints l)).holds w := by
  obtain ⟨A, len, cap, rfl, hl, hx⟩ := open_elems (k := 8) Try.underlying37 (by kernel_rfl) (by omega) h hz
  have c3 : Try.prog.cellsOf 3 = 1 := by kernel_rfl
  have : ∀ i, i < len → ∃ k : Int, In64 k ∧ ∃ ad, A = some ad ∧ w.cell? (ad.add i) = some (.int .i64 k) := by
    intro i hi
    obtain ⟨ad, cs, n, y, hA, hlen, hc, htr, _⟩ := hx i hi
    rw [c3] at hlen hc
    match cs, hlen with
    | [c0], _ =>
      obtain ⟨k, rfl, hk⟩ := i64_of Try.underlying3 htr
      refine ⟨k, hk, ad, hA, ?_⟩
      have h0 := hc 0 _ rfl
      rw [Nat.mul_one] at h0
      simpa [Addr.add] using h0
  obtain ⟨l, rfl, hp⟩ := list_of this
  refine ⟨A, l, cap, rfl, hl, fun k hk => ?_, fun i v hi => ?_⟩
  · obtain ⟨i, hi⟩ := List.mem_iff_getElem?.1 hk
    exact (hp i k hi).1
  · simp only [ints, List.getElem?_map, Option.map_eq_some_iff] at hi
    obtain ⟨k, hk, rfl⟩ := hi
    exact (hp i k hk).2
theorem open_phis {fuel : Nat} {v : Value} {x : DataW H × List MemPlace} (h : DataW.trod enc Try.prog w base spare held fuel 33 [v] = some x) (hz : Reach_ 33 x.1) :
    ∃ A l c, v = .slice A (List.length l) c ∧ LenOk l.length ∧ (∀ p : FPhi, p ∈ l → p.Ok ∧ (Res.rd p.A (ints p.args)).holds w) ∧ (Res.rds A 2 (l.map FPhi.cells)).holds w := by
  obtain ⟨A, len, cap, rfl, hl, hx⟩ := open_structs2 (k := 32) Try.underlying33 Try.underlying79 (by kernel_rfl) (by kernel_rfl) (by kernel_rfl) (by omega) h hz
  have : ∀ i, i < len → ∃ b : FPhi, (b.Ok ∧ (Res.rd b.A (ints b.args)).holds w) ∧ ∃ ad : Addr, A = some ad ∧ ∀ (j : Nat) (v : Value), b.cells[j]? = some v → w.cell? ((ad.add (i * 2)).add j) = some v := by
    intro i hi
    obtain ⟨ad, cs, hA, hln, hc, n, hf⟩ := hx i hi
    obtain ⟨c0, c1, rfl⟩ := list2 hln
    obtain ⟨_, _, e, g0, zg0⟩ := hf 0 _ rfl
    cases e
    obtain ⟨d, rfl, hd⟩ := i64_of Try.underlying3 g0
    obtain ⟨_, _, e, g1, zg1⟩ := hf 1 _ rfl
    cases e
    obtain ⟨Aa, gs, ca, rfl, h1, h2, h3⟩ := open_nums g1 zg1
    exact ⟨⟨d, Aa, ca, gs⟩, ⟨⟨hd, h1, h2⟩, h3⟩, ad, hA, hc⟩
  obtain ⟨l, rfl, hp⟩ := list_of this
  refine ⟨A, l, cap, rfl, hl, fun p hpm => ?_, fun i cs hi => ?_⟩
  · obtain ⟨i, hi⟩ := List.mem_iff_getElem?.1 hpm
    exact (hp i p hi).1
  · rw [List.getElem?_map] at hi
    obtain ⟨b, hb, rfl⟩ := Option.map_eq_some_iff.1 hi
    exact (hp i b hb).2
theorem open_insts {fuel : Nat} {v : Value} {x : DataW H × List MemPlace} (h : DataW.trod enc Try.prog w base spare held fuel 34 [v] = some x) (hz : Reach_ 34 x.1) :
    ∃ A l c, v = .slice A (List.length l) c ∧ LenOk l.length ∧ (∀ p : FIns, p ∈ l → p.Ok ∧ (Res.rd p.A (ints p.args)).holds w) ∧ (Res.rds A 5 (l.map FIns.cells)).holds w := by
  obtain ⟨A, len, cap, rfl, hl, hx⟩ := open_structs2 (k := 64) Try.underlying34 Try.underlying39 (by kernel_rfl) (by kernel_rfl) (by kernel_rfl) (by omega) h hz
  have : ∀ i, i < len → ∃ b : FIns, (b.Ok ∧ (Res.rd b.A (ints b.args)).holds w) ∧ ∃ ad : Addr, A = some ad ∧ ∀ (j : Nat) (v : Value), b.cells[j]? = some v → w.cell? ((ad.add (i * 5)).add j) = some v := by
    intro i hi
    obtain ⟨ad, cs, hA, hln, hc, n, hf⟩ := hx i hi
    obtain ⟨c0, c1, c2, c3, c4, rfl⟩ := list5 hln
    obtain ⟨_, _, e, g0, zg0⟩ := hf 0 _ rfl
    cases e
    obtain ⟨o, rfl, ho⟩ := i64_of Try.underlying3 g0
    obtain ⟨_, _, e, g1, zg1⟩ := hf 1 _ rfl
    cases e
    obtain ⟨d, rfl, hd⟩ := i64_of Try.underlying3 g1
    obtain ⟨_, _, e, g2, zg2⟩ := hf 2 _ rfl
    cases e
    obtain ⟨m, rfl, hmm⟩ := i64_of Try.underlying2 g2
    obtain ⟨_, _, e, g3, zg3⟩ := hf 3 _ rfl
    cases e
    obtain ⟨s, rfl, hs⟩ := str_of Try.underlying9 g3 zg3
    obtain ⟨_, _, e, g4, zg4⟩ := hf 4 _ rfl
    cases e
    obtain ⟨Aa, gs, ca, rfl, h1, h2, h3⟩ := open_nums g4 zg4
    exact ⟨⟨o, d, m, s, Aa, ca, gs⟩, ⟨⟨ho, hd, hmm, hs, h1, h2⟩, h3⟩, ad, hA, hc⟩
  obtain ⟨l, rfl, hp⟩ := list_of this
  refine ⟨A, l, cap, rfl, hl, fun p hpm => ?_, fun i cs hi => ?_⟩
  · obtain ⟨i, hi⟩ := List.mem_iff_getElem?.1 hpm
    exact (hp i p hi).1
  · rw [List.getElem?_map] at hi
    obtain ⟨b, hb, rfl⟩ := Option.map_eq_some_iff.1 hi
    exact (hp i b hb).2
theorem open_fblks {fuel : Nat} {v : Value} {x : DataW H × List MemPlace} (h : DataW.trod enc Try.prog w base spare held fuel 22 [v] = some x) (hz : Reach_ 22 x.1) :
    ∃ A fs c, v = .slice A (bsOf fs).length c ∧ FOk fs ∧ (Res.fn A fs).holds w := by
  obtain ⟨A, len, cap, rfl, _, hx⟩ := open_structs2 (k := 80) Try.underlying22 Try.underlying36 (by kernel_rfl) (by kernel_rfl) (by kernel_rfl) (by omega) h hz
  have : ∀ i, i < len → ∃ b : FBlk, (b.Ok ∧ ∀ r, r ∈ b.parts → r.holds w) ∧ ∃ ad : Addr, A = some ad ∧ ∀ (j : Nat) (v : Value), b.sb.cells[j]? = some v → w.cell? ((ad.add (i * 6)).add j) = some v := by
    intro i hi
    obtain ⟨ad, cs, hA, hln, hc, n, hf⟩ := hx i hi
    obtain ⟨c0, c1, c2, c3, c4, c5, rfl⟩ := list6 hln
    obtain ⟨_, _, e, g0, zg0⟩ := hf 0 _ rfl
    cases e
    obtain ⟨pA, ps, pc, rfl, hp1, hp2, hp3⟩ := open_phis g0 zg0
    obtain ⟨_, _, e, g1, zg1⟩ := hf 1 _ rfl
    cases e
    obtain ⟨iA, js, ic, rfl, hi1, hi2, hi3⟩ := open_insts g1 zg1
    obtain ⟨_, _, e, g2, zg2⟩ := hf 2 _ rfl
    cases e
    obtain ⟨x2, rfl, h2⟩ := i64_of Try.underlying3 g2
    obtain ⟨_, _, e, g3, zg3⟩ := hf 3 _ rfl
    cases e
    obtain ⟨x3, rfl, h3⟩ := i64_of Try.underlying3 g3
    obtain ⟨_, _, e, g4, zg4⟩ := hf 4 _ rfl
    cases e
    obtain ⟨x4, rfl, h4⟩ := i64_of Try.underlying3 g4
    obtain ⟨_, _, e, g5, zg5⟩ := hf 5 _ rfl
    cases e
    obtain ⟨x5, rfl, h5⟩ := i64_of Try.underlying3 g5
    refine ⟨⟨pA, pc, ps, iA, ic, js, x2, x3, x4, x5⟩, ⟨⟨hp1, fun p hp => (hp2 p hp).1, hi1, fun p hp => (hi2 p hp).1, h2, h3, h4, h5⟩, fun r hr => ?_⟩, ad, hA, hc⟩
    unfold FBlk.parts at hr
    rcases List.mem_cons.1 hr with rfl | hr
    · exact hp3
    · rcases List.mem_cons.1 hr with rfl | hr
      · exact hi3
      · rcases List.mem_append.1 hr with hr | hr
        · obtain ⟨p, hp, rfl⟩ := List.mem_map.1 hr
          exact (hp2 p hp).2
        · obtain ⟨p, hp, rfl⟩ := List.mem_map.1 hr
          exact (hi2 p hp).2
  obtain ⟨fs, rfl, hbs⟩ := list_of this
  refine ⟨A, fs, cap, by rw [bsOf_len], fun x hx => ?_, fun r hr => ?_⟩
  · obtain ⟨i, hi⟩ := List.mem_iff_getElem?.1 hx
    exact (hbs i x hi).1.1
  · rcases List.mem_cons.1 hr with rfl | hr
    · intro i cs hi
      unfold bsOf at hi
      rw [List.getElem?_map, List.getElem?_map] at hi
      obtain ⟨b, hb, rfl⟩ := Option.map_eq_some_iff.1 hi
      obtain ⟨y, hy, rfl⟩ := Option.map_eq_some_iff.1 hb
      exact (hbs i y hy).2
    · obtain ⟨y, hy, hr⟩ := List.mem_flatMap.1 hr
      obtain ⟨i, hi⟩ := List.mem_iff_getElem?.1 hy
      exact (hbs i y hi).1.2 r hr
theorem open_ffunc {r : Reach} {b0 : Nat} {v : Value} {d : DataW H} {p : List MemPlace} (hok : Value.okWide Try.prog w r b0 24 v) (h : DataW.Trod enc Try.prog w base spare held 24 v d p) (hz : Reach_ 24 d) :
    ∃ nm wk pa va A fs c, v = .agg #[.string nm, .bool wk, .int .i64 pa, .int .i64 va, .slice A (bsOf fs).length c] ∧ FOk fs ∧ (Res.fn A fs).holds w := by
  obtain ⟨cs, rfl, _⟩ := okWide_struct Try.underlying24 hok
  obtain ⟨fuel, h⟩ := h
  obtain ⟨hl, n, hf0⟩ := fields_of2 Try.underlying24 (by kernel_rfl) (by kernel_rfl) (cs := cs.toList) (by simpa [Value.cells] using h) hz
  have hf := fun (i : Nat) (f : Field) hi => (hf0 i f hi)
  have hsz : cs.size = 5 := by simpa using hl
  obtain ⟨c0, c1, c2, c3, c4, rfl⟩ := array5 hsz
  obtain ⟨_, _, e, g0, zg0⟩ := hf 0 _ rfl
  cases e
  obtain ⟨nm, rfl, _⟩ := str_of Try.underlying9 g0 zg0
  obtain ⟨_, _, e, g1, zg1⟩ := hf 1 _ rfl
  cases e
  obtain ⟨wk, hw, _⟩ := DataW.trod_bool Try.underlying4 g1
  simp at hw
  subst hw
  obtain ⟨_, _, e, g2, zg2⟩ := hf 2 _ rfl
  cases e
  obtain ⟨pa, rfl, _⟩ := i64_of Try.underlying3 g2
  obtain ⟨_, _, e, g3, zg3⟩ := hf 3 _ rfl
  cases e
  obtain ⟨va, rfl, _⟩ := i64_of Try.underlying3 g3
  obtain ⟨_, _, e, g, zg⟩ := hf 4 _ rfl
  cases e
  obtain ⟨A, fs, c, rfl, h1, h2⟩ := open_fblks g zg
  exact ⟨nm, wk, pa, va, A, fs, c, rfl, h1, h2⟩
end
end Go.Proofs.Ytejbeeaomokjpaa
namespace Go.Mor
def sizeTo (fs : List FBlk) (k : Nat) : Nat := ((fs.take k).map (fun x => x.phis.length + x.insts.length)).sum
def sizeF (fs : List FBlk) : Nat := fs.length + sizeTo fs fs.length
theorem sizeTo_zero (fs : List FBlk) : sizeTo fs 0 = 0 := by simp [sizeTo]
theorem sizeTo_succ {fs : List FBlk} {k : Nat} {x : FBlk} (h : fs[k]? = some x) : sizeTo fs (k + 1) = sizeTo fs k + (x.phis.length + x.insts.length) := by
  obtain ⟨hk, he⟩ := List.getElem?_eq_some_iff.1 h
  unfold sizeTo
  rw [List.take_succ_eq_append_getElem hk, he]
  simp
theorem sizeTo_le {fs : List FBlk} (h : FOk fs) (k : Nat) (hk : k ≤ fs.length) : sizeTo fs k ≤ k * 562949953421312 := by
  induction k with
  | zero => simp [sizeTo_zero]
  | succ k ih =>
    obtain ⟨x, hx⟩ := get_of (l := fs) (i := k) (by omega)
    have h1 : x.phis.length ≤ 281474976710656 := (h.get hx).lp
    have h2 : x.insts.length ≤ 281474976710656 := (h.get hx).li
    rw [sizeTo_succ hx]
    have := ih (by omega)
    omega
def greatTo (fs : List FBlk) (k : Nat) : Nat := ((fs.take k).map (fun x => min x.phis.length 5000 + min x.insts.length 5000)).sum
theorem greatTo_zero (fs : List FBlk) : greatTo fs 0 = 0 := by simp [greatTo]
theorem greatTo_succ {fs : List FBlk} {k : Nat} {x : FBlk} (h : fs[k]? = some x) : greatTo fs (k + 1) = greatTo fs k + (min x.phis.length 5000 + min x.insts.length 5000) := by
  obtain ⟨hk, he⟩ := List.getElem?_eq_some_iff.1 h
  unfold greatTo
  rw [List.take_succ_eq_append_getElem hk, he]
  simp
theorem greatTo_le (fs : List FBlk) (k : Nat) (hk : k ≤ fs.length) : greatTo fs k ≤ k * 10000 := by
  induction k with
  | zero => simp [greatTo_zero]
  | succ k ih =>
    obtain ⟨x, hx⟩ := get_of (l := fs) (i := k) (by omega)
    rw [greatTo_succ hx]
    have := ih (by omega)
    omega
def greatQ (va : Int) (fs : List FBlk) : Prop := ((60 < fs.length ∨ 3000 < va) ∧ (va ≤ 20000 ∨ 60 < fs.length)) ∨ (¬ (60 < fs.length ∨ 3000 < va) ∧ 3000 < greatTo fs fs.length)
instance (va : Int) (fs : List FBlk) : Decidable (greatQ va fs) := by unfold greatQ; infer_instance
theorem greatQ_len {va : Int} {fs : List FBlk} (h : ¬ greatQ va fs) : fs.length ≤ 60 := by
  unfold greatQ at h
  omega
theorem bin_sub_w {P : Program} {t : TypeId} (i j : Int) (w : World) : (binOp .sub t (.int .i64 i) (.int .i64 j)).run P w = .ok (.int .i64 (IntKind.i64.wrap (i - j))) w := by simp [binOp, Op.intArith]
def truthI (b : Bool) : Int := cond b 1 0
theorem bool_dec {b : Bool} {P R : Prop} [Decidable R] (h : b = true ↔ P) (e : P ↔ R) : Value.bool b = Value.bool (decide R) := by
  congr 1
  rw [Bool.eq_iff_iff, decide_eq_true_eq]
  exact h.trans e
theorem seq_nil (s : ByteArray) : ((s.toList == (⟨#[]⟩ : ByteArray).toList) = true) = (s.size = 0) := by
  rw [beq_iff_eq, ByteArray.toList_eq, ByteArray.toList_eq]
  apply propext
  constructor
  · intro h
    have h1 := congrArg List.length h
    have e : s.data.toList.length = s.size := Array.length_toList
    rw [e] at h1
    exact h1
  · intro h
    have h2 : s.data = #[] := Array.eq_empty_of_size_eq_zero h
    rw [h2]
def nameQ (s : ByteArray) : Prop := 1 ≤ s.size ∧ s.size ≤ 60
instance (s : ByteArray) : Decidable (nameQ s) := by unfold nameQ; infer_instance
def makesQ (op : Int) : Prop := op ≠ 3 ∧ op ≠ 10 ∧ op ≠ 11
instance (op : Int) : Decidable (makesQ op) := by unfold makesQ; infer_instance
def codeQ (n : Int) : Prop := 1 ≤ n ∧ n ≤ 999
instance (n : Int) : Decidable (codeQ n) := by unfold codeQ; infer_instance
def placeQ (n : Int) : Prop := 0 ≤ n ∧ n ≤ 2147483647
instance (n : Int) : Decidable (placeQ n) := by unfold placeQ; infer_instance
def endsQ (N : Int) (x : FBlk) : Prop :=
  (x.e = 0 ∧ (0 ≤ x.a ∧ x.a < N) ∧ x.v = 0 ∧ x.b = 0) ∨ (x.e = 1 ∧ (0 ≤ x.a ∧ x.a < N) ∧ (0 ≤ x.b ∧ x.b < N) ∧ x.a ≠ x.b) ∨ (x.e = 2 ∧ x.a = 0 ∧ x.b = 0) ∨ (x.e = 3 ∧ codeQ x.a ∧ x.v = 0 ∧ x.b = 0)
instance (N : Int) (x : FBlk) : Decidable (endsQ N x) := by unfold endsQ; infer_instance
def endsS (N : Int) (x : FBlk) : Prop := endsQ N x ∧ (x.e = 2 → -1 ≤ x.v)
instance (N : Int) (x : FBlk) : Decidable (endsS N x) := by unfold endsS; infer_instance
def shapeQ (i : FIns) : Prop := (makesQ i.op ∨ i.dst = -1) ∧
  ((i.op = 1 ∧ i.name.size = 0 ∧ i.args.length = 0) ∨
  (i.op = 2 ∧ placeQ i.n ∧ i.name.size = 0 ∧ i.args.length = 1) ∨
  (i.op = 3 ∧ placeQ i.n ∧ i.name.size = 0 ∧ i.args.length = 2) ∨
  (i.op = 4 ∧ i.n = 0 ∧ nameQ i.name ∧ i.args.length ≤ 16) ∨
  (i.op = 5 ∧ i.n = 0 ∧ i.name.size = 0 ∧ 1 ≤ i.args.length ∧ i.args.length ≤ 17) ∨
  ((i.op = 6 ∨ i.op = 7) ∧ i.n = 0 ∧ nameQ i.name ∧ i.args.length = 0) ∨
  ((i.op = 8 ∨ i.op = 10 ∨ i.op = 12) ∧ i.n = 0 ∧ i.name.size = 0 ∧ i.args.length = 1) ∨
  (i.op = 9 ∧ i.n = 0 ∧ i.name.size = 0 ∧ i.args.length = 0) ∨
  (i.op = 11 ∧ codeQ i.n ∧ i.name.size = 0 ∧ i.args.length = 1) ∨
  ((17 ≤ i.op ∧ i.op ≤ 32) ∧ i.n = 0 ∧ i.name.size = 0 ∧ i.args.length = 2) ∨
  ((41 ≤ i.op ∧ i.op ≤ 43) ∧ i.n = 0 ∧ i.name.size = 0 ∧ i.args.length = 1))
instance (i : FIns) : Decidable (shapeQ i) := by unfold shapeQ; infer_instance
theorem shape_1 {i : FIns} (h : i.op = 1) : shapeQ i ↔ (i.name.size = 0 ∧ i.args.length = 0) := by
  unfold shapeQ makesQ nameQ codeQ placeQ
  rw [h]
  simp only [Int.reduceEq, Int.reduceNe, Int.reduceLE, false_and, true_and, and_true, or_false, false_or, true_or, ne_eq, not_false_eq_true, not_true_eq_false, and_false, or_true, and_self]
theorem shape_2 {i : FIns} (h : i.op = 2) : shapeQ i ↔ ((0 ≤ i.n ∧ i.n ≤ 2147483647) ∧ i.name.size = 0 ∧ i.args.length = 1) := by
  unfold shapeQ makesQ nameQ codeQ placeQ
  rw [h]
  simp only [Int.reduceEq, Int.reduceNe, Int.reduceLE, false_and, true_and, and_true, or_false, false_or, true_or, ne_eq, not_false_eq_true, not_true_eq_false, and_false, or_true, and_self]
theorem shape_3 {i : FIns} (h : i.op = 3) : shapeQ i ↔ (i.dst = -1 ∧ (0 ≤ i.n ∧ i.n ≤ 2147483647) ∧ i.name.size = 0 ∧ i.args.length = 2) := by
  unfold shapeQ makesQ nameQ codeQ placeQ
  rw [h]
  simp only [Int.reduceEq, Int.reduceNe, Int.reduceLE, false_and, true_and, and_true, or_false, false_or, true_or, ne_eq, not_false_eq_true, not_true_eq_false, and_false, or_true, and_self]
theorem shape_4 {i : FIns} (h : i.op = 4) : shapeQ i ↔ (i.n = 0 ∧ (1 ≤ i.name.size ∧ i.name.size ≤ 60) ∧ i.args.length ≤ 16) := by
  unfold shapeQ makesQ nameQ codeQ placeQ
  rw [h]
  simp only [Int.reduceEq, Int.reduceNe, Int.reduceLE, false_and, true_and, and_true, or_false, false_or, true_or, ne_eq, not_false_eq_true, not_true_eq_false, and_false, or_true, and_self]
theorem shape_5 {i : FIns} (h : i.op = 5) : shapeQ i ↔ (i.n = 0 ∧ i.name.size = 0 ∧ 1 ≤ i.args.length ∧ i.args.length ≤ 17) := by
  unfold shapeQ makesQ nameQ codeQ placeQ
  rw [h]
  simp only [Int.reduceEq, Int.reduceNe, Int.reduceLE, false_and, true_and, and_true, or_false, false_or, true_or, ne_eq, not_false_eq_true, not_true_eq_false, and_false, or_true, and_self]
theorem shape_6 {i : FIns} (h : i.op = 6) : shapeQ i ↔ (i.n = 0 ∧ (1 ≤ i.name.size ∧ i.name.size ≤ 60) ∧ i.args.length = 0) := by
  unfold shapeQ makesQ nameQ codeQ placeQ
  rw [h]
  simp only [Int.reduceEq, Int.reduceNe, Int.reduceLE, false_and, true_and, and_true, or_false, false_or, true_or, ne_eq, not_false_eq_true, not_true_eq_false, and_false, or_true, and_self]
theorem shape_7 {i : FIns} (h : i.op = 7) : shapeQ i ↔ (i.n = 0 ∧ (1 ≤ i.name.size ∧ i.name.size ≤ 60) ∧ i.args.length = 0) := by
  unfold shapeQ makesQ nameQ codeQ placeQ
  rw [h]
  simp only [Int.reduceEq, Int.reduceNe, Int.reduceLE, false_and, true_and, and_true, or_false, false_or, true_or, ne_eq, not_false_eq_true, not_true_eq_false, and_false, or_true, and_self]
theorem shape_8 {i : FIns} (h : i.op = 8) : shapeQ i ↔ (i.n = 0 ∧ i.name.size = 0 ∧ i.args.length = 1) := by
  unfold shapeQ makesQ nameQ codeQ placeQ
  rw [h]
  simp only [Int.reduceEq, Int.reduceNe, Int.reduceLE, false_and, true_and, and_true, or_false, false_or, true_or, ne_eq, not_false_eq_true, not_true_eq_false, and_false, or_true, and_self]
theorem shape_9 {i : FIns} (h : i.op = 9) : shapeQ i ↔ (i.n = 0 ∧ i.name.size = 0 ∧ i.args.length = 0) := by
  unfold shapeQ makesQ nameQ codeQ placeQ
  rw [h]
  simp only [Int.reduceEq, Int.reduceNe, Int.reduceLE, false_and, true_and, and_true, or_false, false_or, true_or, ne_eq, not_false_eq_true, not_true_eq_false, and_false, or_true, and_self]
theorem shape_10 {i : FIns} (h : i.op = 10) : shapeQ i ↔ (i.dst = -1 ∧ i.n = 0 ∧ i.name.size = 0 ∧ i.args.length = 1) := by
  unfold shapeQ makesQ nameQ codeQ placeQ
  rw [h]
  simp only [Int.reduceEq, Int.reduceNe, Int.reduceLE, false_and, true_and, and_true, or_false, false_or, true_or, ne_eq, not_false_eq_true, not_true_eq_false, and_false, or_true, and_self]
theorem shape_11 {i : FIns} (h : i.op = 11) : shapeQ i ↔ (i.dst = -1 ∧ (1 ≤ i.n ∧ i.n ≤ 999) ∧ i.name.size = 0 ∧ i.args.length = 1) := by
  unfold shapeQ makesQ nameQ codeQ placeQ
  rw [h]
  simp only [Int.reduceEq, Int.reduceNe, Int.reduceLE, false_and, true_and, and_true, or_false, false_or, true_or, ne_eq, not_false_eq_true, not_true_eq_false, and_false, or_true, and_self]
theorem shape_12 {i : FIns} (h : i.op = 12) : shapeQ i ↔ (i.n = 0 ∧ i.name.size = 0 ∧ i.args.length = 1) := by
  unfold shapeQ makesQ nameQ codeQ placeQ
  rw [h]
  simp only [Int.reduceEq, Int.reduceNe, Int.reduceLE, false_and, true_and, and_true, or_false, false_or, true_or, ne_eq, not_false_eq_true, not_true_eq_false, and_false, or_true, and_self]
theorem shape_big {i : FIns} (h : ¬ (1 ≤ i.op ∧ i.op ≤ 12)) : shapeQ i ↔ (((17 ≤ i.op ∧ i.op ≤ 32) ∧ i.n = 0 ∧ i.name.size = 0 ∧ i.args.length = 2) ∨ ((41 ≤ i.op ∧ i.op ≤ 43) ∧ i.n = 0 ∧ i.name.size = 0 ∧ i.args.length = 1)) := by
  have e : ∀ k : Int, 1 ≤ k → k ≤ 12 → (i.op = k) = False := fun k h1 h2 => eq_false (fun e => h ⟨by omega, by omega⟩)
  unfold shapeQ makesQ
  simp only [ne_eq, e 1 (by decide) (by decide), e 2 (by decide) (by decide), e 3 (by decide) (by decide), e 4 (by decide) (by decide), e 5 (by decide) (by decide), e 6 (by decide) (by decide), e 7 (by decide) (by decide), e 8 (by decide) (by decide), e 9 (by decide) (by decide), e 10 (by decide) (by decide), e 11 (by decide) (by decide), e 12 (by decide) (by decide), false_and, true_and, or_false, false_or, true_or, not_false_eq_true, and_self]
theorem not12 {op : Int} (h1 : ¬ op = 1) (h12 : ¬ op = 12) (h8 : ¬ op = 8) (h10 : ¬ op = 10) (h2 : ¬ op = 2) (h3 : ¬ op = 3) (h4 : ¬ op = 4) (h5 : ¬ op = 5) (h6 : ¬ op = 6) (h7 : ¬ op = 7) (h9 : ¬ op = 9) (h11 : ¬ op = 11) : ¬ (1 ≤ op ∧ op ≤ 12) := by
  rintro ⟨a, b⟩
  have e : op = 1 ∨ op = 2 ∨ op = 3 ∨ op = 4 ∨ op = 5 ∨ op = 6 ∨ op = 7 ∨ op = 8 ∨ op = 9 ∨ op = 10 ∨ op = 11 ∨ op = 12 := by clear h1 h2 h3 h4 h5 h6 h7 h8 h9 h10 h11 h12; omega
  rcases e with e | e | e | e | e | e | e | e | e | e | e | e <;> contradiction
theorem shape_lt {i : FIns} {cd : Int} (h0 : ¬ (1 ≤ i.op ∧ i.op ≤ 12)) (h1 : i.op < 40) (ho : -9223372036854775808 ≤ i.op ∧ i.op ≤ 9223372036854775807) (hc : cd = 0 ↔ 1 ≤ IntKind.i64.wrap (i.op - 16) ∧ IntKind.i64.wrap (i.op - 16) ≤ 16) :
    ((((cd = 0) ∧ (i.n = 0)) ∧ (i.name.size = 0)) ∧ (((i.args.length : Nat) : Int) = 2)) ↔ shapeQ i := by
  rw [shape_big h0]
  have hw := IntKind.wrap_i64 (i.op - 16)
  have e : (1 ≤ IntKind.i64.wrap (i.op - 16) ∧ IntKind.i64.wrap (i.op - 16) ≤ 16) ↔ (17 ≤ i.op ∧ i.op ≤ 32) := by
    rw [hw]
    omega
  rw [e] at hc
  rw [hc]
  constructor
  · rintro ⟨⟨⟨a, b⟩, c⟩, d⟩
    exact .inl ⟨a, b, c, by omega⟩
  · rintro (⟨a, b, c, d⟩ | ⟨a, _⟩)
    · exact ⟨⟨⟨a, b⟩, c⟩, by omega⟩
    · omega
theorem shape_ge {i : FIns} {cd : Int} (h1 : ¬ i.op < 40) (hc : cd = 0 ↔ 1 ≤ i.op - 40 ∧ i.op - 40 ≤ 3) :
    ((((cd = 0) ∧ (i.n = 0)) ∧ (i.name.size = 0)) ∧ (((i.args.length : Nat) : Int) = 1)) ↔ shapeQ i := by
  rw [shape_big (by omega)]
  have e : (1 ≤ i.op - 40 ∧ i.op - 40 ≤ 3) ↔ (41 ≤ i.op ∧ i.op ≤ 43) := by omega
  rw [e] at hc
  rw [hc]
  constructor
  · rintro ⟨⟨⟨a, b⟩, c⟩, d⟩
    exact .inr ⟨a, b, c, by omega⟩
  · rintro (⟨a, _⟩ | ⟨a, b, c, d⟩)
    · omega
    · exact ⟨⟨⟨a, b⟩, c⟩, by omega⟩
theorem shape_not {i : FIns} (h : (¬ (makesQ i.op)) ∧ (i.dst ≠ -1)) : False ↔ shapeQ i := ⟨False.elim, fun e => e.1.elim h.1 h.2⟩
end Go.Mor
namespace Go.Mor
open Go.RowKit
theorem toList_madeCells (zs : List Value) (n : Nat) (hz : 0 < zs.length) : (madeCells zs.toArray (n * zs.length)).toList = (List.replicate n zs).flatten := by
  have hlen : ((List.replicate n zs).flatten).length = n * zs.length := by simp
  apply List.ext_getElem?
  intro j
  by_cases hj : j < n * zs.length
  · have h1 : j % zs.length < zs.length := Nat.mod_lt _ hz
    have e1 : (madeCells zs.toArray (n * zs.length)).toList[j]? = some zs[j % zs.length] := by
      simp [madeCells, hj, h1]
    rw [e1]
    clear e1
    have h2 : j / zs.length < n := Nat.div_lt_of_lt_mul (by rwa [Nat.mul_comm] at hj)
    have key : ∀ n q, q < n → ∀ r (hr : r < zs.length), ((List.replicate n zs).flatten)[q * zs.length + r]? = some zs[r] := by
      intro n
      induction n with
      | zero => intro q hq; omega
      | succ n ih =>
        intro q hq r hr
        rw [List.replicate_succ, List.flatten_cons]
        cases q with
        | zero =>
          rw [Nat.zero_mul, Nat.zero_add, List.getElem?_append_left hr]
          simp [hr]
        | succ q =>
          rw [List.getElem?_append_right (by rw [Nat.succ_mul]; omega), show (q + 1) * zs.length + r - zs.length = q * zs.length + r by rw [Nat.succ_mul]; omega]
          exact ih q (by omega) r hr
    have := key n (j / zs.length) h2 (j % zs.length) h1
    rw [Nat.div_add_mod' j zs.length] at this
    exact this.symm
  · have e1 : ((List.replicate n zs).flatten)[j]? = none := List.getElem?_eq_none (by rw [hlen]; omega)
    rw [e1]
    apply List.getElem?_eq_none
    simp [madeCells]
    omega
section
variable {P : Program} {c : Code} {K : Act → World → Prop} {Q : Exit → Act → World → Prop} {a : Act} {w w0 : World} {S : Nat → Prop} {L : List Res} {k k' : Nat} {N : FN} {env : Env}
variable {d : Option Nat} {ty : Nat} {g : Option (Nat × Bool)}
theorem From_makeS {t : TypeId} {x y : Operand} (hk : coreAt c k = some (d, .makeSlice t x y, ty, g)) (hF : Fr a N env) (hg : guardE c g env = some true) (hd : okd d N = true) (hk' : k + 1 = k')
    {e bytes size : Nat} {zs : List Value} {n : Nat} {i : Int} (hx : ev env x = some (.int .i64 i)) (hy : ev env y = some (.int .i64 i)) (hn : i = (n : Int)) (ht : P.underlying t = some (.slice e))
    (hi : (P.info? e).map (fun i => (i.size, i.bytes, i.zero)) = some (size, bytes, some (.agg zs.toArray))) (hs : size = zs.length) (hz : 0 < zs.length) (hb : bytes * n ≤ 140737488355328) (hl : n ≤ maxLen) (hM : Mem S w0 w L)
    (h : ∀ b w', w0.heap.size ≤ b → w.heap.size ≤ b → Mem S w0 w' (L ++ [.row e size (some ⟨b, 0, none⟩) n n (List.replicate n zs).flatten]) → Mem noS w w' [.row e size (some ⟨b, 0, none⟩) n n (List.replicate n zs).flatten] →
      ∀ a', a' = a.put d (.slice (some ⟨b, 0, none⟩) n n) → Fr a' N (putE env d (.slice (some ⟨b, 0, none⟩) n n)) → From P c K Q k' a' w') : From P c K Q k a w := by
  subst hk'
  subst hn
  cases hi' : P.info? e with
  | none => simp [hi'] at hi
  | some inf =>
    simp only [hi', Option.map_some, Option.some.injEq, Prod.mk.injEq] at hi
    obtain ⟨hs', hby, hzz⟩ := hi
    subst hby
    obtain ⟨w', hr, hown, hgr⟩ := run_make_full (P := P) w 0 t e inf (.agg zs.toArray) size ht hi' hzz hs' .i64 .i64 n (by omega) hl (Nat.zero_le _)
    have hc : (madeCells (Value.agg zs.toArray).cells (n * size)).toList = (List.replicate n zs).flatten := by
      rw [hs]
      exact toList_madeCells zs n hz
    rw [hc] at hown
    have hm : Mem noS w w' [.row e size (some ⟨w.heap.size, 0, none⟩) n n (List.replicate n zs).flatten] := by
      refine ⟨hgr.os, hgr.tape, hgr.output, hgr.size, fun k hk _ => hgr.block k hk (by simp), ?_, List.pairwise_singleton _ _⟩
      simp only [List.mem_singleton]
      rintro _ rfl
      refine ⟨hown, ?_⟩
      rintro g' ⟨a', ha', rfl⟩
      injection ha' with ha'
      subst ha'
      exact .inr (Nat.le_refl _)
    refine From_val hk hF hg (v := .slice (some ⟨w.heap.size, 0, none⟩) n n) (w' := w') (fun o ho _ => ?_) (h w.heap.size w' hM.size (Nat.le_refl _) (hM.call hm) hm _ rfl (hF.put hd _))
    unfold execOp
    rw [ho]
    simp only [hF.ev hx, hF.ev hy, Sem.run_bind, hr, Result.andThen_ok]
    rfl
theorem addr_add (a : Addr) (i j : Nat) : (a.add i).add j = a.add (i + j) := by
  unfold Addr.add
  by_cases hi : i = 0 <;> by_cases hj : j = 0 <;> simp [hi, hj, Nat.add_assoc]
def setAt : List Value → Nat → List Value → List Value
  | xs, _, [] => xs
  | xs, j, v :: vs => setAt (xs.set j v) (j + 1) vs
theorem storeCells_rowS {e size n cap : Nat} {ad ad' : Addr} : ∀ (vs : List Value) (i j : Nat) {xs : List Value} {w : World}, (∀ v ∈ vs, v.oneCell' = true) → (Res.row e size (some ad) n cap xs).holds w → ad'.add i = ad.add j → ad'.add 0 = ad' → (∀ q, ad'.add (i + q) = ad.add (j + q)) → j + vs.length ≤ n * size →
    ∃ w', (storeCells ad' vs i).run P w = .ok () w' ∧ Mem (Res.row e size (some ad) n cap xs).fp w w' [.row e size (some ad) n cap (setAt xs j vs)]
  | [], i, j, xs, w, _, hb, _, _, _, _ => ⟨w, by simp [storeCells], by simpa [setAt] using Mem.initS hb⟩
  | v :: vs, i, j, xs, w, h1, hb, he, h0, hq, hl => by
    simp only [List.length_cons] at hl
    have hm := Mem.set_row (j := j) hb v
    have hb' := hm.get 0 rfl
    obtain ⟨w', hr, hm'⟩ := storeCells_rowS vs (i + 1) (j + 1) (fun u hu => h1 u (List.mem_cons_of_mem _ hu)) hb' (hq 1) h0 (fun q => by have := hq (1 + q); rwa [← Nat.add_assoc, ← Nat.add_assoc] at this) (by omega)
    refine ⟨w', ?_, ?_⟩
    · have hxl : xs.length = n * size := hb.1
      obtain ⟨u, hu⟩ : ∃ u, xs[j]? = some u := ⟨_, List.getElem?_eq_getElem (by omega)⟩
      obtain ⟨a0, ha0, hcell⟩ := row_rd hb j u hu
      injection ha0 with ha0
      subst ha0
      have hst : (store (ad.add j) v).run P w = .ok () (w.setCell (ad.add j) v) := by rw [run_store P w _ v .plain (h1 v (List.mem_cons_self ..)), hcell]; simp [row_frozen hb]
      simp only [storeCells, Sem.run_bind, he, hst, Result.andThen_ok, hr]
    · have := hm.mod 0 rfl hm'
      simpa [setAt] using this
theorem From_storeS_row {t : TypeId} {x y : Operand} (hk : coreAt c k = some (d, .store t x y, ty, g)) (hF : Fr a N env) (hg : guardE c g env = some true) (hd : okd d N = true) (hk' : k + 1 = k')
    {ad ad' : Addr} {j e size n cap : Nat} {vs xs : List Value} (hx : ev env x = some (.pointer (some ad'))) (had : ad' = ad.add j) (hy : ev env y = some (.agg vs.toArray)) (ht : aggT P t = some vs.length) (hv : ∀ v ∈ vs, v.oneCell' = true) (hM : Mem S w0 w L)
    (i : Nat) (hi : L[i]? = some (.row e size (some ad) n cap xs)) (hj : j + vs.length ≤ n * size)
    (h : ∀ w', Mem S w0 w' (L.set i (.row e size (some ad) n cap (setAt xs j vs))) → Mem (Res.row e size (some ad) n cap xs).fp w w' [.row e size (some ad) n cap (setAt xs j vs)] → ∀ a', a' = a.put d undef → Fr a' N (putE env d undef) → From P c K Q k' a' w') : From P c K Q k a w := by
  subst hk'
  subst had
  have hb := hM.get i hi
  obtain ⟨w', hr, hm⟩ := storeCells_rowS (P := P) (ad' := ad.add j) vs 0 j hv hb (by rw [addr_add]; rfl) (by rw [addr_add]; rfl) (fun q => by rw [addr_add, Nat.zero_add]) hj
  refine From_unit hk hF hg (w' := w') (fun o ho' => ?_) (h _ (by simpa using hM.mod i hi hm) hm _ rfl (hF.put hd _))
  unfold execOp
  rw [ho']
  simp [Instr.storeAt, Instr.sureAddr, hF.ev hx, hF.ev hy, storeVar, (isAgg_agg ht w).2, Value.cells, hr]
end
end Go.Mor
namespace Go.Mor
open Go.RowKit
theorem From_ixA {P : Program} {c : Code} {K : Act → World → Prop} {Q : Exit → Act → World → Prop} {a : Act} {w : World} {k : Nat} {N : FN} {env : Env} (d : Option Nat) (A : Option Addr) (ad : Addr) (n size : Nat) (i : Int) (hF : Fr a N env) (hk : ixE P c N env k = some (d, A, n, size, i)) (hA : A = some ad) (h0 : 0 ≤ i) (h1 : i < n)
    (h : ∀ a', Fr a' N (putE env d (.pointer (some (ad.add (i.toNat * size))))) → From P c K Q (k + 1) a' w) : From P c K Q k a w :=
  From_ix d ad n size i hF (by rw [hk, hA]) h0 h1 h
end Go.Mor
namespace Go.Mor
open Go.RowKit
def groupL : List (Bool × Res) → List Res
  | [] => []
  | (b, r) :: l => cond b [r] [] ++ groupL l
theorem groupL_set : ∀ (l : List (Bool × Res)) (i : Nat) {r r' : Res}, l[i]? = some (false, r') → (groupL l ++ [r]).Perm (groupL (l.set i (true, r)))
  | [], i, r, r', h => by simp at h
  | (b, q) :: l, 0, r, r', h => by
    simp at h
    obtain ⟨rfl, rfl⟩ := h
    show ((cond false [q] [] ++ groupL l) ++ [r]).Perm (cond true [r] [] ++ groupL l)
    simp only [cond_false, List.nil_append, cond_true]
    exact List.perm_append_comm
  | (b, q) :: l, i + 1, r, r', h => by
    have := groupL_set l i (r := r) (r' := r') (by simpa using h)
    show ((cond b [q] [] ++ groupL l) ++ [r]).Perm (cond b [q] [] ++ groupL (l.set i (true, r)))
    rw [List.append_assoc]
    exact this.append_left _
theorem Mem.group {S : Nat → Prop} {w0 w : World} {L : List Res} {l : List (Bool × Res)} {r r' : Res} (h : Mem S w0 w ((L ++ groupL l) ++ [r])) (i : Nat) (hi : l[i]? = some (false, r')) : Mem S w0 w (L ++ groupL (l.set i (true, r))) := by
  refine h.perm ?_
  rw [List.append_assoc]
  exact (groupL_set l i hi).append_left _
end Go.Mor
namespace Go.Mor
open Go.RowKit
section
variable {P : Program} {c : Code} {K : Act → World → Prop} {Q : Exit → Act → World → Prop} {a : Act} {w w0 : World} {S : Nat → Prop} {L : List Res} {k k' : Nat} {N : FN} {env : Env}
variable {d : Option Nat} {ty : Nat} {g : Option (Nat × Bool)}
theorem From_build0 {t : TypeId} (hk : coreAt c k = some (d, .buildSlice t 0 #[], ty, g)) (hF : Fr a N env) (hg : guardE c g env = some true) (hd : okd d N = true) (hk' : k + 1 = k')
    {e size : Nat} (ht : P.underlying t = some (.slice e)) (hi : (P.info? e).map (fun i => i.size) = some size) (hM : Mem S w0 w L)
    (h : ∀ b w', w0.heap.size ≤ b → w.heap.size ≤ b → Mem S w0 w' (L ++ [.row e size (some ⟨b, 0, none⟩) 0 0 []]) → Mem noS w w' [.row e size (some ⟨b, 0, none⟩) 0 0 []] →
      ∀ a', a' = a.put d (.slice (some ⟨b, 0, none⟩) 0 0) → Fr a' N (putE env d (.slice (some ⟨b, 0, none⟩) 0 0)) → From P c K Q k' a' w') : From P c K Q k a w := by
  subst hk'
  have hrow : (Res.row e size (some ⟨w.heap.size, 0, none⟩) 0 0 []).holds (w.alloc (.cells #[] e)) := by
    have := World.ownsRow_lit (base := 0) (e := e) (size := size) w #[] 0 (Nat.zero_le _) (by simp only [maxLen]; omega) (by simp)
    show World.ownsRow _ _ _ _ _ _ _
    simpa using this
  have hm : Mem noS w (w.alloc (.cells #[] e)) [.row e size (some ⟨w.heap.size, 0, none⟩) 0 0 []] := by
    refine (Mem.alloc w e []).say 0 rfl (fun _ => hrow) ?_
    rintro g' ⟨a', ha', rfl⟩
    injection ha' with ha'
    subst ha'
    rfl
  refine From_val hk hF hg (v := .slice (some ⟨w.heap.size, 0, none⟩) 0 0) (w' := w.alloc (.cells #[] e)) (fun o ho _ => ?_)
    (h w.heap.size (w.alloc (.cells #[] e)) hM.size (Nat.le_refl _) (hM.call hm) hm _ rfl (hF.put hd _))
  unfold execOp
  rw [ho]
  cases hi' : P.info? e with
  | none => simp [hi'] at hi
  | some inf =>
    have hs0 : (sizeOf e).run P w = .ok inf.size w := by simp [sizeOf, typeInfo, hi']
    simp only [List.map_toArray, List.map_nil, Instr.buildSlice, Sem.run_bind, run_underlying ht, hs0, Result.andThen_ok, Nat.zero_mul, Nat.reducePow, gt_iff_lt, Nat.not_lt_zero, if_false, if_true, Sem.run_pure, show Array.range 0 = #[] from rfl, Array.toList_empty, Instr.fill, newRow, run_newObj]
    rfl
end
end Go.Mor
namespace Go.Mor
open Go.RowKit
def mdc (l : List (Int × Int)) : List Value := l.flatMap (fun p => [.int .i64 p.1, .int .i64 p.2])
theorem mdc_len (l : List (Int × Int)) : (mdc l).length = l.length * 2 := by
  induction l with
  | nil => rfl
  | cons x l ih => simp [mdc] at ih ⊢; omega
theorem mdc_at {l : List (Int × Int)} {i : Nat} {p : Int × Int} (h : l[i]? = some p) : (mdc l)[i * 2]? = some (.int .i64 p.1) ∧ (mdc l)[i * 2 + 1]? = some (.int .i64 p.2) := by
  induction l generalizing i with
  | nil => simp at h
  | cons x l ih =>
    have e : mdc (x :: l) = .int .i64 x.1 :: .int .i64 x.2 :: mdc l := rfl
    rw [e]
    cases i with
    | zero => simp at h; subst h; exact ⟨rfl, rfl⟩
    | succ i =>
      simp at h
      obtain ⟨h1, h2⟩ := ih h
      refine ⟨?_, ?_⟩
      · rw [show (i + 1) * 2 = i * 2 + 1 + 1 by omega]; simpa using h1
      · rw [show (i + 1) * 2 + 1 = i * 2 + 1 + 1 + 1 by omega]; simpa using h2
theorem mdc_set {l : List (Int × Int)} {i : Nat} (a b : Int) (h : i < l.length) : setAt (mdc l) (i * 2) [.int .i64 a, .int .i64 b] = mdc (l.set i (a, b)) := by
  induction l generalizing i with
  | nil => simp at h
  | cons x l ih =>
    have e : mdc (x :: l) = .int .i64 x.1 :: .int .i64 x.2 :: mdc l := rfl
    cases i with
    | zero => rfl
    | succ i =>
      have := ih (i := i) (by simpa using h)
      rw [e, show (i + 1) * 2 = i * 2 + 1 + 1 by omega, List.set_cons_succ]
      show setAt (.int .i64 x.1 :: .int .i64 x.2 :: mdc l) (i * 2 + 1 + 1) [.int .i64 a, .int .i64 b] = .int .i64 x.1 :: .int .i64 x.2 :: mdc (l.set i (a, b))
      rw [← this]
      simp [setAt]
theorem mdc_set0 {l : List (Int × Int)} {i : Nat} {p : Int × Int} (a : Int) (h : l[i]? = some p) : (mdc l).set (i * 2) (.int .i64 a) = mdc (l.set i (a, p.2)) := by
  induction l generalizing i with
  | nil => simp at h
  | cons x l ih =>
    have e : mdc (x :: l) = .int .i64 x.1 :: .int .i64 x.2 :: mdc l := rfl
    cases i with
    | zero => simp at h; subst h; rfl
    | succ i =>
      simp at h
      have := ih h
      rw [e, show (i + 1) * 2 = i * 2 + 1 + 1 by omega]
      show .int .i64 x.1 :: .int .i64 x.2 :: (mdc l).set (i * 2) (.int .i64 a) = .int .i64 x.1 :: .int .i64 x.2 :: mdc (l.set i (a, p.2))
      rw [this]
theorem mdc_rep (n : Nat) (a b : Int) : (List.replicate n [Value.int .i64 a, .int .i64 b]).flatten = mdc (List.replicate n (a, b)) := by
  induction n with
  | zero => rfl
  | succ n ih => rw [List.replicate_succ, List.replicate_succ, List.flatten_cons, ih]; rfl
theorem md_rd {w : World} {A : Option Addr} {ad : Addr} {l : List (Int × Int)} (h : (Res.rd A (mdc l)).holds w) (hA : A = some ad) {i : Nat} {p : Int × Int} (hi : l[i]? = some p) :
    ∀ j v, [.int .i64 p.1, .int .i64 p.2][j]? = some v → w.cell? ((ad.add (i * 2)).add j) = some v := by
  intro j v hj
  obtain ⟨h1, h2⟩ := mdc_at hi
  rw [addr_add]
  have key : ∀ q u, (mdc l)[q]? = some u → w.cell? (ad.add q) = some u := by
    intro q u hu
    obtain ⟨a', ha', hc⟩ := h q u hu
    rw [hA] at ha'
    injection ha' with ha'
    subst ha'
    exact hc
  match j, hj with
  | 0, hj => simp at hj; subst hj; exact key _ _ h1
  | 1, hj => simp at hj; subst hj; exact key _ _ h2
theorem md_rd0 {w : World} {A : Option Addr} {ad : Addr} {l : List (Int × Int)} (h : (Res.rd A (mdc l)).holds w) (hA : A = some ad) {i : Nat} {p : Int × Int} (hi : l[i]? = some p) : w.cell? (ad.add (i * 2)) = some (.int .i64 p.1) := by
  have := md_rd h hA hi 0 _ rfl
  rwa [addr_add] at this
theorem get_getD {α : Type} {l : List α} {i : Nat} (d : α) (h : i < l.length) : l[i]? = some (l.getD i d) := by simp [List.getD, List.getElem?_eq_getElem h]
def putQ (lo hi : Int) (l : List (Int × Int)) (v : Int) : Prop := (lo ≤ v ∧ v < hi) ∧ (l.getD v.toNat (0, 0)).1 < 0
instance (lo hi : Int) (l : List (Int × Int)) (v : Int) : Decidable (putQ lo hi l v) := by unfold putQ; infer_instance
abbrev Dfs := List (Int × Int × Int)
def phiDefs (b : Int) (l : List FPhi) : Dfs := l.map (fun p => (p.dst, b, -1))
def insDefs (b : Int) (l : List FIns) : Dfs := (l.zipIdx.filter (fun x => decide (makesQ x.1.op))).map (fun x => (x.1.dst, b, (x.2 : Int)))
def blkDefs (b : Int) (x : FBlk) : Dfs := phiDefs b x.phis ++ insDefs b x.insts
def defsTo (fs : List FBlk) (n : Nat) : Dfs := ((fs.take n).zipIdx).flatMap (fun x => blkDefs (x.2 : Int) x.1)
def defsF (fs : List FBlk) : Dfs := defsTo fs fs.length
theorem phiDefs_succ {b : Int} {l : List FPhi} {k : Nat} {p : FPhi} (h : l[k]? = some p) : phiDefs b (l.take (k + 1)) = phiDefs b (l.take k) ++ [(p.dst, b, -1)] := by
  obtain ⟨hk, he⟩ := List.getElem?_eq_some_iff.1 h
  rw [List.take_succ_eq_append_getElem hk, he]
  simp [phiDefs]
theorem zipIdx_take {α : Type} {l : List α} {k : Nat} {p : α} (h : l[k]? = some p) : (l.take (k + 1)).zipIdx = (l.take k).zipIdx ++ [(p, k)] := by
  obtain ⟨hk, he⟩ := List.getElem?_eq_some_iff.1 h
  rw [List.take_succ_eq_append_getElem hk, he, List.zipIdx_append]
  simp [Nat.min_eq_left (Nat.le_of_lt hk)]
theorem insDefs_yes {b : Int} {l : List FIns} {k : Nat} {p : FIns} (h : l[k]? = some p) (hm : makesQ p.op) : insDefs b (l.take (k + 1)) = insDefs b (l.take k) ++ [(p.dst, b, (k : Int))] := by
  unfold insDefs
  rw [zipIdx_take h, List.filter_append, List.map_append]
  simp [hm]
theorem insDefs_no {b : Int} {l : List FIns} {k : Nat} {p : FIns} (h : l[k]? = some p) (hm : ¬ makesQ p.op) : insDefs b (l.take (k + 1)) = insDefs b (l.take k) := by
  unfold insDefs
  rw [zipIdx_take h, List.filter_append, List.map_append]
  simp [hm]
theorem defsTo_zero (fs : List FBlk) : defsTo fs 0 = [] := by simp [defsTo]
theorem defsTo_succ {fs : List FBlk} {k : Nat} {x : FBlk} (h : fs[k]? = some x) : defsTo fs (k + 1) = defsTo fs k ++ blkDefs (k : Int) x := by
  unfold defsTo
  rw [zipIdx_take h, List.flatMap_append]
  simp
theorem defs_mem {fs : List FBlk} {n : Nat} {d : Int × Int × Int} (h : d ∈ defsTo fs n) : 0 ≤ d.2.1 ∧ d.2.1 < n ∧ -1 ≤ d.2.2 := by
  unfold defsTo at h
  rw [List.mem_flatMap] at h
  obtain ⟨x, hx, hd⟩ := h
  have hx2 : x.2 < n := by
    have := List.snd_lt_of_mem_zipIdx hx
    have h2 : (fs.take n).length ≤ n := by simp; omega
    omega
  unfold blkDefs at hd
  rcases List.mem_append.1 hd with hd | hd
  · unfold phiDefs at hd
    obtain ⟨p, _, rfl⟩ := List.mem_map.1 hd
    exact ⟨Int.natCast_nonneg _, by show (x.2 : Int) < n; omega, by show (-1 : Int) ≤ -1; omega⟩
  · unfold insDefs at hd
    obtain ⟨p, _, rfl⟩ := List.mem_map.1 hd
    exact ⟨Int.natCast_nonneg _, by show (x.2 : Int) < n; omega, by show (-1 : Int) ≤ (p.2 : Int); omega⟩
def findD (ds : Dfs) (v : Int) : Option (Int × Int) := (ds.find? (fun d => d.1 == v)).map (·.2)
theorem findD_none {ds : Dfs} {v : Int} (h : v ∉ ds.map (·.1)) : findD ds v = none := by
  unfold findD
  rw [Option.map_eq_none_iff, List.find?_eq_none]
  intro d hd he
  rw [beq_iff_eq] at he
  exact h (List.mem_map.2 ⟨d, hd, he⟩)
theorem findD_some {ds : Dfs} {v : Int} (h : v ∈ ds.map (·.1)) : ∃ p, findD ds v = some p ∧ (v, p) ∈ ds := by
  unfold findD
  obtain ⟨d, hd, hv⟩ := List.mem_map.1 h
  cases hf : ds.find? (fun d => d.1 == v) with
  | none =>
    have := List.find?_eq_none.1 hf d hd
    simp [hv] at this
  | some e =>
    have h1 := List.find?_some hf
    have h2 := List.mem_of_find?_eq_some hf
    rw [beq_iff_eq] at h1
    refine ⟨e.2, rfl, ?_⟩
    rw [← h1]
    exact h2
theorem findD_append {ds : Dfs} {v b k : Int} (h : v ∉ ds.map (·.1)) (u : Int) : findD (ds ++ [(v, b, k)]) u = if u = v then some (b, k) else findD ds u := by
  unfold findD
  rw [List.find?_append]
  by_cases e : u = v
  · subst e
    have : ds.find? (fun d => d.1 == u) = none := by
      rw [List.find?_eq_none]
      intro d hd he
      rw [beq_iff_eq] at he
      exact h (List.mem_map.2 ⟨d, hd, he⟩)
    rw [this]
    simp
  · rw [if_neg e]
    have : ([(v, b, k)] : Dfs).find? (fun d => d.1 == u) = none := by
      rw [List.find?_eq_none]
      intro d hd he
      simp at hd
      subst hd
      rw [beq_iff_eq] at he
      exact e he.symm
    rw [this]
    simp
structure Tab (n : Nat) (base : Nat → Int × Int) (enc : Int × Int → Int × Int) (ds : Dfs) (l : List (Int × Int)) : Prop where
  len : l.length = n
  at_ : ∀ v : Nat, v < n → l[v]? = some (match findD ds (v : Int) with
    | some p => enc p
    | none => base v)
def OnceQ (lo hi : Int) (ds : Dfs) : Prop := (∀ d, d ∈ ds → lo ≤ d.1 ∧ d.1 < hi) ∧ (ds.map (·.1)).Nodup
theorem OnceQ.nil (lo hi : Int) : OnceQ lo hi [] := ⟨by simp, by simp⟩
theorem OnceQ.snoc {lo hi : Int} {ds : Dfs} {v b k : Int} : OnceQ lo hi (ds ++ [(v, b, k)]) ↔ OnceQ lo hi ds ∧ (lo ≤ v ∧ v < hi) ∧ v ∉ ds.map (·.1) := by
  unfold OnceQ
  constructor
  · rintro ⟨h1, h2⟩
    rw [List.map_append, List.nodup_append] at h2
    refine ⟨⟨fun d hd => h1 d (List.mem_append_left _ hd), h2.1⟩, h1 (v, b, k) (by simp), fun hm => h2.2.2 v hm v (by simp) rfl⟩
  · rintro ⟨⟨h1, h2⟩, h3, h4⟩
    refine ⟨fun d hd => ?_, ?_⟩
    · rcases List.mem_append.1 hd with hd | hd
      · exact h1 d hd
      · simp at hd; subst hd; exact h3
    · rw [List.map_append, List.nodup_append]
      refine ⟨h2, by simp, fun a ha c hc e => ?_⟩
      simp at hc
      subst hc
      subst e
      exact h4 ha
theorem OnceQ.pre {lo hi : Int} {ds es : Dfs} (h : OnceQ lo hi (ds ++ es)) : OnceQ lo hi ds := by
  obtain ⟨h1, h2⟩ := h
  rw [List.map_append, List.nodup_append] at h2
  exact ⟨fun d hd => h1 d (List.mem_append_left _ hd), h2.1⟩
theorem Tab.put {n : Nat} {base : Nat → Int × Int} {enc : Int × Int → Int × Int} {ds : Dfs} {l : List (Int × Int)} (h : Tab n base enc ds l) {v b k : Int} (h0 : 0 ≤ v) (h1 : v < n) (hv : v ∉ ds.map (·.1)) :
    Tab n base enc (ds ++ [(v, b, k)]) (l.set v.toNat (enc (b, k))) where
  len := by rw [List.length_set, h.len]
  at_ := fun u hu => by
    rw [findD_append hv]
    by_cases e : (u : Int) = v
    · have : u = v.toNat := by omega
      rw [if_pos e, this, List.getElem?_set_self (by rw [h.len]; omega)]
    · rw [if_neg e, List.getElem?_set_ne (by omega)]
      exact h.at_ u hu
end Go.Mor
namespace Go.Mor
open Go.RowKit
def VQ (pa va : Int) (fs : List FBlk) : Prop := (∀ x, x ∈ fs → ∀ p, p ∈ x.insts → shapeQ p) ∧ OnceQ pa va (defsF fs)
def ShapesTo (fs : List FBlk) (k : Nat) : Prop := ∀ (i : Nat) (x : FBlk), i < k → fs[i]? = some x → ∀ p, p ∈ x.insts → shapeQ p
def ShapesIn (x : FBlk) (j : Nat) : Prop := ∀ (i : Nat) (p : FIns), i < j → x.insts[i]? = some p → shapeQ p
theorem ShapesTo.next {fs : List FBlk} {k : Nat} {x : FBlk} (h : ShapesTo fs k) (hx : fs[k]? = some x) (hi : ShapesIn x x.insts.length) : ShapesTo fs (k + 1) := by
  intro i y hik hy p hp
  rcases Nat.lt_or_ge i k with h1 | h1
  · exact h i y h1 hy p hp
  · have : i = k := by omega
    subst this
    rw [hx] at hy
    injection hy with hy
    subst hy
    obtain ⟨j, hj⟩ := List.mem_iff_getElem?.1 hp
    exact hi j p (List.getElem?_eq_some_iff.1 hj).1 hj
theorem ShapesIn.next {x : FBlk} {j : Nat} {p : FIns} (h : ShapesIn x j) (hp : x.insts[j]? = some p) (hs : shapeQ p) : ShapesIn x (j + 1) := by
  intro i q hij hq
  rcases Nat.lt_or_ge i j with h1 | h1
  · exact h i q h1 hq
  · have : i = j := by omega
    subst this
    rw [hp] at hq
    injection hq with hq
    exact hq ▸ hs
theorem ShapesTo.all {fs : List FBlk} (h : ShapesTo fs fs.length) : ∀ x, x ∈ fs → ∀ p, p ∈ x.insts → shapeQ p := by
  intro x hx
  obtain ⟨i, hi⟩ := List.mem_iff_getElem?.1 hx
  exact h i x (List.getElem?_eq_some_iff.1 hi).1 hi
theorem defsTo_pre {fs : List FBlk} (k : Nat) : ∀ n, k ≤ n → n ≤ fs.length → ∃ es, defsTo fs n = defsTo fs k ++ es := by
  intro n
  induction n with
  | zero => intro h _; exact ⟨[], by rw [Nat.le_zero.1 h]; simp⟩
  | succ n ih =>
    intro h hn
    rcases Nat.lt_or_ge n k with h1 | h1
    · have : k = n + 1 := by omega
      subst this
      exact ⟨[], by simp⟩
    · obtain ⟨es, he⟩ := ih h1 (by omega)
      obtain ⟨x, hx⟩ := get_of (l := fs) (i := n) (by omega)
      exact ⟨es ++ blkDefs n x, by rw [defsTo_succ hx, he, List.append_assoc]⟩
theorem phi_pre (b : Int) (l : List FPhi) (j : Nat) : ∃ es, phiDefs b l = phiDefs b (l.take j) ++ es :=
  ⟨phiDefs b (l.drop j), by unfold phiDefs; rw [← List.map_append, List.take_append_drop]⟩
theorem ins_pre (b : Int) (l : List FIns) (j : Nat) : ∃ es, insDefs b l = insDefs b (l.take j) ++ es := by
  have e : l.zipIdx = (l.take j).zipIdx ++ (l.drop j).zipIdx (0 + (l.take j).length) := by
    rw [← List.zipIdx_append, List.take_append_drop]
  refine ⟨(((l.drop j).zipIdx (0 + (l.take j).length)).filter (fun x => decide (makesQ x.1.op))).map (fun x => (x.1.dst, b, (x.2 : Int))), ?_⟩
  unfold insDefs
  rw [e, List.filter_append, List.map_append]
theorem once_phi {fs : List FBlk} {pa va : Int} {k : Nat} {x : FBlk} (hx : fs[k]? = some x) (j : Nat) (h : OnceQ pa va (defsF fs)) : OnceQ pa va (defsTo fs k ++ phiDefs k (x.phis.take j)) := by
  have hk := (List.getElem?_eq_some_iff.1 hx).1
  obtain ⟨es, he⟩ := defsTo_pre (fs := fs) (k + 1) fs.length hk (Nat.le_refl _)
  obtain ⟨e2, h2⟩ := phi_pre k x.phis j
  have : defsF fs = (defsTo fs k ++ phiDefs k (x.phis.take j)) ++ (e2 ++ insDefs k x.insts ++ es) := by
    unfold defsF
    rw [he, defsTo_succ hx, blkDefs, h2]
    simp only [List.append_assoc]
  rw [this] at h
  exact h.pre
theorem once_ins {fs : List FBlk} {pa va : Int} {k : Nat} {x : FBlk} (hx : fs[k]? = some x) (j : Nat) (h : OnceQ pa va (defsF fs)) : OnceQ pa va (defsTo fs k ++ phiDefs k x.phis ++ insDefs k (x.insts.take j)) := by
  have hk := (List.getElem?_eq_some_iff.1 hx).1
  obtain ⟨es, he⟩ := defsTo_pre (fs := fs) (k + 1) fs.length hk (Nat.le_refl _)
  obtain ⟨e2, h2⟩ := ins_pre k x.insts j
  have : defsF fs = (defsTo fs k ++ phiDefs k x.phis ++ insDefs k (x.insts.take j)) ++ (e2 ++ es) := by
    unfold defsF
    rw [he, defsTo_succ hx, blkDefs, h2]
    simp only [List.append_assoc]
  rw [this] at h
  exact h.pre
structure Enc (lo pa : Int) (n : Nat) (base : Nat → Int × Int) (enc : Int × Int → Int × Int) : Prop where
  base : ∀ v : Nat, v < n → lo ≤ (v : Int) → ((base v).1 < 0 ↔ pa ≤ (v : Int))
  enc : ∀ p, 0 ≤ p.1 → 0 ≤ (enc p).1
def NonNeg (ds : Dfs) : Prop := ∀ d, d ∈ ds → 0 ≤ d.2.1
theorem tab_putQ {pa lo hi : Int} {n : Nat} {base : Nat → Int × Int} {enc : Int × Int → Int × Int} {ds : Dfs} {l : List (Int × Int)} (h : Tab n base enc ds l) (he : Enc lo pa n base enc) (hd : NonNeg ds) (h0 : 0 ≤ lo) (h1 : lo ≤ pa) (hn : hi = (n : Int)) (v : Int) : putQ lo hi l v ↔ (pa ≤ v ∧ v < hi) ∧ v ∉ ds.map (·.1) := by
  unfold putQ
  constructor
  · rintro ⟨⟨a, b⟩, c⟩
    have hv : l[v.toNat]? = some (match findD ds ((v.toNat : Nat) : Int) with | some p => enc p | none => base v.toNat) := h.at_ v.toNat (by omega)
    have ev : ((v.toNat : Nat) : Int) = v := by omega
    rw [ev] at hv
    have hg : l.getD v.toNat (0, 0) = (match findD ds v with | some p => enc p | none => base v.toNat) := by simp [List.getD, hv]
    rw [hg] at c
    by_cases hm : v ∈ ds.map (·.1)
    · obtain ⟨p, hp, hmem⟩ := findD_some hm
      rw [hp] at c
      have := he.enc p (hd _ hmem)
      simp only at c
      omega
    · rw [findD_none hm] at c
      have := (he.base v.toNat (by omega) (by omega)).1 c
      exact ⟨⟨by omega, b⟩, hm⟩
  · rintro ⟨⟨a, b⟩, hm⟩
    have hv : l[v.toNat]? = some (match findD ds ((v.toNat : Nat) : Int) with | some p => enc p | none => base v.toNat) := h.at_ v.toNat (by omega)
    have ev : ((v.toNat : Nat) : Int) = v := by omega
    rw [ev, findD_none hm] at hv
    have hg : l.getD v.toNat (0, 0) = base v.toNat := by simp [List.getD, hv]
    rw [hg]
    exact ⟨⟨by omega, b⟩, (he.base v.toNat (by omega) (by omega)).2 (by omega)⟩
theorem nonneg_phi (fs : List FBlk) (k j : Nat) (l : List FPhi) : NonNeg (defsTo fs k ++ phiDefs k (l.take j)) := by
  intro d hd
  rcases List.mem_append.1 hd with hd | hd
  · exact (defs_mem hd).1
  · unfold phiDefs at hd
    obtain ⟨p, _, rfl⟩ := List.mem_map.1 hd
    exact Int.natCast_nonneg _
theorem nonneg_ins (fs : List FBlk) (k j : Nat) (l : List FPhi) (m : List FIns) : NonNeg (defsTo fs k ++ phiDefs k l ++ insDefs k (m.take j)) := by
  intro d hd
  rcases List.mem_append.1 hd with hd | hd
  · have := nonneg_phi fs k l.length l d (by rw [List.take_length]; exact hd)
    exact this
  · unfold insDefs at hd
    obtain ⟨p, _, rfl⟩ := List.mem_map.1 hd
    exact Int.natCast_nonneg _
theorem once_step {pa lo hi : Int} {n : Nat} {base : Nat → Int × Int} {enc : Int × Int → Int × Int} {ds : Dfs} {l : List (Int × Int)} (h : Tab n base enc ds l) (he : Enc lo pa n base enc) (hd : NonNeg ds) (h0 : 0 ≤ lo) (h1 : lo ≤ pa) (hn : hi = (n : Int)) (ho : OnceQ pa hi ds) (v b k : Int) :
    (putQ lo hi l v → Tab n base enc (ds ++ [(v, b, k)]) (l.set v.toNat (enc (b, k))) ∧ OnceQ pa hi (ds ++ [(v, b, k)])) ∧ (¬ putQ lo hi l v → ¬ OnceQ pa hi (ds ++ [(v, b, k)])) := by
  have key := tab_putQ h he hd h0 h1 hn v
  constructor
  · intro hp
    obtain ⟨h2, h3⟩ := key.1 hp
    exact ⟨h.put (by omega) (by omega) h3, OnceQ.snoc.2 ⟨ho, h2, h3⟩⟩
  · intro hp hq
    obtain ⟨_, h2, h3⟩ := OnceQ.snoc.1 hq
    exact hp (key.2 ⟨h2, h3⟩)
def fillM (n k : Nat) : List (Int × Int) := List.replicate k (-1, 0) ++ List.replicate (n - k) (0, 0)
theorem fillM_zero (n : Nat) : fillM n 0 = List.replicate n (0, 0) := by simp [fillM]
theorem fillM_get {n k : Nat} (h : k < n) : (fillM n k)[k]? = some (0, 0) := by
  unfold fillM
  rw [List.getElem?_append_right (by simp), List.length_replicate, Nat.sub_self, show n - k = (n - (k + 1)) + 1 by omega]
  rfl
theorem fillM_next {n k : Nat} (h : k < n) : (fillM n k).set k (-1, 0) = fillM n (k + 1) := by
  unfold fillM
  rw [List.set_append_right _ _ (by simp), List.replicate_succ', List.append_assoc]
  congr 1
  rw [List.length_replicate, Nat.sub_self, show n - k = (n - (k + 1)) + 1 by omega, List.replicate_succ]
  rfl
theorem fillM_end (n : Nat) : Tab n (fun _ => (-1, 0)) (fun p => (p.1, p.2 + 1)) [] (fillM n n) where
  len := by simp [fillM]
  at_ := fun v hv => by
    have : findD [] (v : Int) = none := rfl
    rw [this]
    simp [fillM, hv]
theorem enc_ssa (pa : Int) (n : Nat) : Enc pa pa n (fun _ => (-1, 0)) (fun p => (p.1, p.2 + 1)) :=
  ⟨fun _ _ h => ⟨fun _ => h, fun _ => by decide⟩, fun p h => h⟩
end Go.Mor
namespace Go.Mor
open Go.RowKit
def baseR (pa : Int) (v : Nat) : Int × Int := if (v : Int) < pa then (0, -2) else (-1, 0)
def fillR (pa : Int) (n k : Nat) : List (Int × Int) := (List.range k).map (baseR pa) ++ List.replicate (n - k) (0, 0)
theorem fillR_zero (pa : Int) (n : Nat) : fillR pa n 0 = List.replicate n (0, 0) := by simp [fillR]
theorem fillR_len {pa : Int} {n k : Nat} (h : k ≤ n) : (fillR pa n k).length = n := by simp [fillR]; omega
theorem fillR_get {pa : Int} {n k : Nat} (h : k < n) : (fillR pa n k)[k]? = some (0, 0) := by
  unfold fillR
  rw [List.getElem?_append_right (by simp), List.length_map, List.length_range, Nat.sub_self, show n - k = (n - (k + 1)) + 1 by omega]
  rfl
theorem fillR_set {pa : Int} {n k : Nat} {p : Int × Int} (h : k < n) (hp : baseR pa k = p) : (fillR pa n k).set k p = fillR pa n (k + 1) := by
  unfold fillR
  rw [List.set_append_right _ _ (by simp), List.range_succ, List.map_append, List.append_assoc]
  congr 1
  rw [List.length_map, List.length_range, Nat.sub_self, show n - k = (n - (k + 1)) + 1 by omega, List.replicate_succ, ← hp]
  rfl
theorem fillR_no {pa : Int} {n k : Nat} (h : k < n) (hp : ¬ (k : Int) < pa) : (fillR pa n k).set k (-1, 0) = fillR pa n (k + 1) := fillR_set h (by simp [baseR, hp])
theorem fillR_yes {pa : Int} {n k : Nat} (h : k < n) (hp : (k : Int) < pa) : ((fillR pa n k).set k (-1, 0)).set k (0, -2) = fillR pa n (k + 1) := by
  rw [List.set_set]
  exact fillR_set h (by simp [baseR, hp])
theorem fillR_end (pa : Int) (n : Nat) : Tab n (baseR pa) (fun p => p) [] (fillR pa n n) where
  len := by simp [fillR]
  at_ := fun v hv => by
    have : findD [] (v : Int) = none := rfl
    rw [this]
    simp [fillR, hv]
theorem enc_ref (pa : Int) (n : Nat) : Enc 0 pa n (baseR pa) (fun p => p) :=
  ⟨fun v _ _ => by unfold baseR; split <;> simp <;> omega, fun p h => h⟩
end Go.Mor
namespace Go.Mor
open Go.RowKit
abbrev DSt := (Int → Bool) × List Int
def addS (S : Int → Bool) (t : Int) : Int → Bool := fun x => (x == t) || S x
inductive Kids (T : Int → List Int) : List Int → DSt → DSt → Prop where
  | nil {s} : Kids T [] s s
  | skip {t ts S o s'} : S t = true → Kids T ts (S, o) s' → Kids T (t :: ts) (S, o) s'
  | go {t ts S o s1 s'} : S t = false → Kids T (T t) (addS S t, o) s1 → Kids T ts (s1.1, s1.2 ++ [t]) s' → Kids T (t :: ts) (S, o) s'
theorem Kids.mono {T : Int → List Int} {ts : List Int} {s s' : DSt} (h : Kids T ts s s') : ∀ x, s.1 x = true → s'.1 x = true := by
  induction h with
  | nil => exact fun _ h => h
  | skip _ _ ih => exact ih
  | go _ _ _ ih1 ih2 => exact fun x hx => ih2 x (ih1 x (by have hx' := hx; simp only at hx'; simp [addS, hx']))
def kidsF (T : Int → List Int) : Nat → List Int → DSt → DSt
  | 0, _, s => s
  | _ + 1, [], s => s
  | f + 1, t :: ts, s => match s.1 t with
    | true => kidsF T f ts s
    | false => kidsF T f ts ((kidsF T f (T t) (addS s.1 t, s.2)).1, (kidsF T f (T t) (addS s.1 t, s.2)).2 ++ [t])
def unmet (n : Nat) (S : Int → Bool) : Nat := ((List.range n).filter (fun i : Nat => !S (i : Int))).length
theorem unmet_mono {n : Nat} {S S' : Int → Bool} (h : ∀ x, S x = true → S' x = true) : unmet n S' ≤ unmet n S := by
  unfold unmet
  refine List.Sublist.length_le ?_
  have : (List.range n).filter (fun i : Nat => !S' (i : Int)) = ((List.range n).filter (fun i : Nat => !S (i : Int))).filter (fun i : Nat => !S' (i : Int)) := by
    rw [List.filter_filter]
    apply List.filter_congr
    intro i _
    cases h1 : S (i : Int) <;> cases h2 : S' (i : Int) <;> simp
    rw [h _ h1] at h2
    cases h2
  rw [this]
  exact List.filter_sublist
theorem unmet_add {n : Nat} {S : Int → Bool} {t : Int} (h0 : 0 ≤ t) (h1 : t < n) (hS : S t = false) : unmet n (addS S t) + 1 ≤ unmet n S := by
  unfold unmet
  have hsub : (List.range n).filter (fun i : Nat => !addS S t (i : Int)) = ((List.range n).filter (fun i : Nat => !S (i : Int))).filter (fun i : Nat => !((i : Int) == t)) := by
    rw [List.filter_filter]
    apply List.filter_congr
    intro i _
    simp [addS]
  rw [hsub]
  obtain ⟨k, rfl⟩ := Int.eq_ofNat_of_zero_le h0
  have hmem : k ∈ (List.range n).filter (fun i : Nat => !S (i : Int)) := List.mem_filter.2 ⟨List.mem_range.2 (by omega), by rw [hS]; rfl⟩
  have := List.length_filter_lt_length_iff_exists (p := fun i : Nat => !((i : Int) == (k : Int))) |>.2 ⟨k, hmem, by simp⟩
  omega
theorem unmet_le (n : Nat) (S : Int → Bool) : unmet n S ≤ n := by
  unfold unmet
  exact Nat.le_trans (List.length_filter_le _ _) (by simp)
theorem kids_total {T : Int → List Int} {n : Nat} (hT : ∀ t, (T t).length ≤ 2) (hR : ∀ t x, x ∈ T t → 0 ≤ x ∧ x < n) : ∀ (f : Nat) (ts : List Int) (s : DSt), (∀ x, x ∈ ts → 0 ≤ x ∧ x < n) → 3 * unmet n s.1 + ts.length + 1 ≤ f →
    Kids T ts s (kidsF T f ts s) := by
  intro f
  induction f with
  | zero => intro ts s _ h; omega
  | succ f ih =>
    intro ts s hts hf
    obtain ⟨S, o⟩ := s
    cases ts with
    | nil => exact .nil
    | cons t ts =>
      have ht := hts t (List.mem_cons_self ..)
      have hts' : ∀ x, x ∈ ts → 0 ≤ x ∧ x < (n : Int) := fun x hx => hts x (List.mem_cons_of_mem _ hx)
      simp only [List.length_cons] at hf
      cases hS : S t with
      | true =>
        have : kidsF T (f + 1) (t :: ts) (S, o) = kidsF T f ts (S, o) := by simp only [kidsF, hS]
        rw [this]
        exact .skip hS (ih ts (S, o) hts' (by simp only at hf ⊢; omega))
      | false =>
        have e : kidsF T (f + 1) (t :: ts) (S, o) = kidsF T f ts ((kidsF T f (T t) (addS S t, o)).1, (kidsF T f (T t) (addS S t, o)).2 ++ [t]) := by simp only [kidsF, hS]
        rw [e]
        have hu := unmet_add (S := S) ht.1 ht.2 hS
        have h1 := ih (T t) (addS S t, o) (hR t) (by have := hT t; simp only at hf ⊢; omega)
        refine .go hS h1 (ih ts _ hts' ?_)
        have hm := unmet_mono (n := n) (Kids.mono h1)
        simp only at hf hm ⊢
        omega
theorem Kids.count {T : Int → List Int} {n : Nat} (hR : ∀ t x, x ∈ T t → 0 ≤ x ∧ x < n) {ts : List Int} {s s' : DSt} (h : Kids T ts s s') (hts : ∀ x, x ∈ ts → 0 ≤ x ∧ x < (n : Int)) :
    s'.2.length + unmet n s'.1 ≤ s.2.length + unmet n s.1 := by
  induction h with
  | nil => exact Nat.le_refl _
  | skip _ _ ih => exact ih (fun x hx => hts x (List.mem_cons_of_mem _ hx))
  | @go t ts S o s1 s' hS _ _ ih1 ih2 =>
    have ht := hts t (List.mem_cons_self ..)
    have h1 := ih1 (hR t)
    have h2 := ih2 (fun x hx => hts x (List.mem_cons_of_mem _ hx))
    have h3 := unmet_add (S := S) ht.1 ht.2 hS
    simp only [List.length_append, List.length_cons, List.length_nil] at h1 h2 ⊢
    omega
def leftL (bs : List SB) : List Int := (kidsF (tg bs) (3 * bs.length + 3) (tg bs 0) (addS (fun _ => false) 0, [])).2 ++ [0]
def orderL (bs : List SB) : List Int := if bs.length = 0 then [] else (leftL bs).reverse
theorem left_kids (bs : List SB) : ∃ s, Kids (tg bs) (tg bs 0) (addS (fun _ => false) 0, []) s ∧ s.2 ++ [0] = leftL bs := by
  refine ⟨_, kids_total (n := bs.length) (fun t => tg_len bs t) (fun t x h => tg_mem h) (3 * bs.length + 3) _ _ (fun x h => tg_mem h) ?_, rfl⟩
  have h1 := tg_len bs 0
  have h2 := unmet_le bs.length (addS (fun _ => false) 0)
  simp only
  by_cases h : bs.length = 0
  · have : tg bs 0 = [] := tg_out (by omega)
    rw [this]
    simp
    omega
  · have := unmet_add (n := bs.length) (S := fun _ => false) (t := 0) (by omega) (by omega) rfl
    have h3 := unmet_le bs.length (fun _ => false)
    omega
theorem leftL_len {bs : List SB} (h : 0 < bs.length) : (leftL bs).length ≤ bs.length := by
  obtain ⟨s, h1, h2⟩ := left_kids bs
  have h3 := Kids.count (n := bs.length) (fun t x h => tg_mem h) h1 (fun x h => tg_mem h)
  have h4 := unmet_add (n := bs.length) (S := fun _ => false) (t := 0) (by omega) (by omega) rfl
  have h5 := unmet_le bs.length (fun _ => false)
  rw [← h2, List.length_append]
  simp only [List.length_nil, List.length_cons] at h3 ⊢
  omega
def Fin_ (T : Int → List Int) : List (Int × Nat) → DSt → List Int → Prop
  | [], s, R => s.2 = R
  | (b, k) :: rest, s, R => ∃ s', Kids T ((T b).drop k) s s' ∧ Fin_ T rest (s'.1, s'.2 ++ [b]) R
theorem fin_pop {T : Int → List Int} {b : Int} {k : Nat} {rest : List (Int × Nat)} {s : DSt} {R : List Int} (h : Fin_ T ((b, k) :: rest) s R) (hk : (T b).length ≤ k) : Fin_ T rest (s.1, s.2 ++ [b]) R := by
  obtain ⟨s', h1, h2⟩ := h
  rw [List.drop_of_length_le hk] at h1
  cases h1
  exact h2
theorem fin_skip {T : Int → List Int} {b t : Int} {k : Nat} {rest : List (Int × Nat)} {S : Int → Bool} {o : List Int} {R : List Int} (h : Fin_ T ((b, k) :: rest) (S, o) R) (hk : (T b)[k]? = some t) (ht : S t = true) : Fin_ T ((b, k + 1) :: rest) (S, o) R := by
  obtain ⟨s', h1, h2⟩ := h
  obtain ⟨hlt, he⟩ := List.getElem?_eq_some_iff.1 hk
  rw [List.drop_eq_getElem_cons hlt, he] at h1
  cases h1 with
  | skip _ h1 => exact ⟨s', h1, h2⟩
  | go h' _ _ => rw [ht] at h'; cases h'
theorem fin_push {T : Int → List Int} {b t : Int} {k : Nat} {rest : List (Int × Nat)} {S : Int → Bool} {o : List Int} {R : List Int} (h : Fin_ T ((b, k) :: rest) (S, o) R) (hk : (T b)[k]? = some t) (ht : S t = false) :
    Fin_ T ((t, 0) :: (b, k + 1) :: rest) (addS S t, o) R := by
  obtain ⟨s', h1, h2⟩ := h
  obtain ⟨hlt, he⟩ := List.getElem?_eq_some_iff.1 hk
  rw [List.drop_eq_getElem_cons hlt, he] at h1
  cases h1 with
  | skip h' _ => rw [ht] at h'; cases h'
  | go _ ha hb => exact ⟨_, by simpa using ha, ⟨s', hb, h2⟩⟩
def bools (l : List Bool) : List Value := l.map Value.bool
theorem bools_get {l : List Bool} {i : Nat} (h : i < l.length) : (bools l)[i]? = some (.bool (l.getD i false)) := by simp [bools, List.getD, h]
theorem bools_len (l : List Bool) : (bools l).length = l.length := by simp [bools]
theorem bools_set (l : List Bool) (i : Nat) (v : Bool) : bools (l.set i v) = (bools l).set i (.bool v) := by simp [bools, List.map_set]
def BoolsOf (n : Nat) (l : List Bool) (S : Int → Bool) : Prop := l.length = n ∧ ∀ i : Nat, i < n → l.getD i false = S (i : Int)
theorem BoolsOf.start (n : Nat) : BoolsOf n (List.replicate n false) (fun _ => false) := ⟨by simp, fun i hi => by simp [List.getD, hi]⟩
theorem BoolsOf.put {n : Nat} {l : List Bool} {S : Int → Bool} (h : BoolsOf n l S) {i : Nat} (_hi : i < n) : BoolsOf n (l.set i true) (addS S (i : Int)) := by
  refine ⟨by simp [h.1], fun j hj => ?_⟩
  unfold addS
  by_cases e : i = j
  · subst e
    have : i < l.length := by rw [h.1]; exact hj
    simp [List.getD, this]
  · have e2 : ¬ ((j : Int) = (i : Int)) := by omega
    rw [← h.2 j hj]
    simp [List.getD, List.getElem?_set_ne e, e2]
def stepC (p : Int × Nat) : List Value := [.int .i64 p.1, .int .i64 (p.2 : Int)]
def stkC (st : List (Int × Nat)) : List Value := st.reverse.flatMap stepC
theorem stkC_cons (p : Int × Nat) (st : List (Int × Nat)) : stkC (p :: st) = stkC st ++ stepC p := by simp [stkC]
theorem stkC_len (st : List (Int × Nat)) : (stkC st).length = st.length * 2 := by
  induction st with
  | nil => rfl
  | cons p st ih => rw [stkC_cons, List.length_append, ih]; simp [stepC]; omega
theorem stk_top {b : Int} {k : Nat} {st : List (Int × Nat)} : (stkC ((b, k) :: st))[st.length * 2]? = some (.int .i64 b) ∧ (stkC ((b, k) :: st))[st.length * 2 + 1]? = some (.int .i64 (k : Int)) := by
  rw [stkC_cons, ← stkC_len]
  constructor
  · rw [List.getElem?_append_right (Nat.le_refl _)]; simp [stepC]
  · rw [List.getElem?_append_right (by omega)]; simp [stepC]
theorem stk_pop {b : Int} {k : Nat} {st : List (Int × Nat)} : (stkC ((b, k) :: st)).take (st.length * 2) = stkC st := by
  rw [stkC_cons, ← stkC_len, List.take_left]
theorem stk_inc {b : Int} {k : Nat} {st : List (Int × Nat)} : (stkC ((b, k) :: st)).set (st.length * 2 + 1) (.int .i64 ((k : Int) + 1)) = stkC ((b, k + 1) :: st) := by
  rw [stkC_cons, stkC_cons, ← stkC_len, List.set_append_right _ _ (by omega)]
  simp [stepC]
structure MetL (n : Nat) (ws : List Nat) (S : Int → Bool) : Prop where
  len : ws.length = (n + 63) / 64
  fit : Fit ws
  bits : ∀ i : Nat, i < n → tb ws i = S (i : Int)
theorem MetL.start (n : Nat) : MetL n (List.replicate ((n + 63) / 64) 0) (fun _ => false) := ⟨by simp, Fit.zero _, fun i _ => tb_zero _ i⟩
theorem MetL.put {n : Nat} {ws : List Nat} {S : Int → Bool} (h : MetL n ws S) {i : Nat} (hi : i < n) : MetL n (putw ws i) (addS S (i : Int)) := by
  refine ⟨by simp [putw, h.len], h.fit.put i, fun j hj => ?_⟩
  rw [tb_put (by rw [h.len]; omega), h.bits j hj]
  unfold addS
  congr 1
  by_cases e : i = j
  · subst e; simp
  · have : ¬ ((j : Int) = (i : Int)) := by omega
    simp [e, this]
theorem MetL.idx {n : Nat} {ws : List Nat} {S : Int → Bool} (h : MetL n ws S) {i : Nat} (hi : i < n) : i / 64 < ws.length := by rw [h.len]; omega
def wsum (T : Int → List Int) : List (Int × Nat) → Nat
  | [] => 0
  | (b, k) :: r => ((T b).length - k + 1) + wsum T r
def WayOk (T : Int → List Int) (st : List (Int × Nat)) : Prop := ∀ p, p ∈ st → p.2 ≤ (T p.1).length
theorem way_one (T : Int → List Int) (b : Int) : WayOk T [(b, 0)] := by
  intro p hp
  simp only [List.mem_singleton] at hp
  subst hp
  exact Nat.zero_le _
theorem way_push {T : Int → List Int} {b t : Int} {k : Nat} {r : List (Int × Nat)} (h : WayOk T ((b, k) :: r)) (hk : k + 1 ≤ (T b).length) : WayOk T ((t, 0) :: (b, k + 1) :: r) := by
  intro p hp
  rcases List.mem_cons.1 hp with rfl | hp
  · exact Nat.zero_le _
  · rcases List.mem_cons.1 hp with rfl | hp
    · exact hk
    · exact h p (List.mem_cons_of_mem _ hp)
theorem way_inc {T : Int → List Int} {b : Int} {k : Nat} {r : List (Int × Nat)} (h : WayOk T ((b, k) :: r)) (hk : k + 1 ≤ (T b).length) : WayOk T ((b, k + 1) :: r) := by
  intro p hp
  rcases List.mem_cons.1 hp with rfl | hp
  · exact hk
  · exact h p (List.mem_cons_of_mem _ hp)
theorem tg_at {bs : List SB} {b : Int} {k : Nat} (h : k < (tg bs b).length) : ∃ ti : Nat, (tg bs b)[k]? = some (ti : Int) ∧ ti < bs.length := by
  have h1 := tg_mem (List.getElem_mem h)
  obtain ⟨ti, he⟩ := Int.eq_ofNat_of_zero_le h1.1
  exact ⟨ti, by rw [List.getElem?_eq_getElem h, he], by omega⟩
def Swapped (l m : List Int) (k : Nat) : Prop := m.length = l.length ∧ ∀ p, p < l.length → m.getD p 0 = if p < k ∨ l.length ≤ p + k then l.getD (l.length - 1 - p) 0 else l.getD p 0
theorem swapped_start (l : List Int) : Swapped l l 0 := ⟨rfl, fun p hp => by rw [if_neg (by omega)]⟩
theorem getD_set {m : List Int} {i p : Nat} {v : Int} (hi : i < m.length) : (m.set i v).getD p 0 = if i = p then v else m.getD p 0 := by
  by_cases h : i = p
  · subst h; simp [List.getD, hi]
  · simp [List.getD, List.getElem?_set_ne h, h]
theorem swapped_next {l m : List Int} {k q : Nat} (h : Swapped l m k) (hq : k < q ∧ q + k + 1 = l.length) : Swapped l ((m.set k (m.getD q 0)).set q (m.getD k 0)) (k + 1) := by
  obtain ⟨h1, h2⟩ := h
  refine ⟨by simp [h1], fun p hp => ?_⟩
  rw [getD_set (by simp; omega), getD_set (by omega)]
  by_cases e1 : q = p
  · subst e1
    rw [if_pos rfl, if_pos (by omega), h2 k (by omega), if_neg (by omega), show l.length - 1 - q = k by omega]
  · rw [if_neg e1]
    by_cases e2 : k = p
    · subst e2
      rw [if_pos rfl, if_pos (by omega), h2 q (by omega), if_neg (by omega), show l.length - 1 - k = q by omega]
    · rw [if_neg e2, h2 p hp]
      by_cases e3 : p < k ∨ l.length ≤ p + k
      · rw [if_pos e3, if_pos (by omega)]
      · rw [if_neg e3, if_neg (by omega)]
theorem swapped_end {l m : List Int} {k : Nat} (h : Swapped l m k) (hk : 2 * k ≤ l.length ∧ l.length ≤ 2 * k + 1) : m = l.reverse := by
  obtain ⟨h1, h2⟩ := h
  apply List.ext_getElem?
  intro p
  by_cases hp : p < l.length
  · have h3 := h2 p hp
    have e : ∀ x : List Int, p < x.length → x[p]? = some (x.getD p 0) := by
      intro x hx
      simp [List.getD, hx]
    rw [e m (by omega), e l.reverse (by simpa using hp), h3]
    have e4 : l.reverse.getD p 0 = l.getD (l.length - 1 - p) 0 := by
      simp [List.getD, List.getElem?_reverse hp]
    rw [e4]
    split
    · rfl
    · rw [show l.length - 1 - p = p by omega]
  · rw [List.getElem?_eq_none (by omega), List.getElem?_eq_none (by simp; omega)]
end Go.Mor
namespace Go.Mor
open Go.RowKit
inductive Reach (T : Int → List Int) : Int → Prop
  | zero : Reach T 0
  | step {x t : Int} : Reach T x → t ∈ T x → Reach T t
def tgb (T : Int → List Int) (bar : Int) (x : Int) : List Int := (T x).filter (fun t => !(t == bar))
theorem mem_tgb {T : Int → List Int} {bar x t : Int} : t ∈ tgb T bar x ↔ t ∈ T x ∧ t ≠ bar := by simp [tgb]
theorem tgb_len {T : Int → List Int} (hT : ∀ t, (T t).length ≤ 2) (bar : Int) (t : Int) : (tgb T bar t).length ≤ 2 := Nat.le_trans (List.length_filter_le _ _) (hT t)
theorem kids_closed {T : Int → List Int} {ts : List Int} {s s' : DSt} (h : Go.Mor.Kids T ts s s') :
    (∀ x, x ∈ ts → s'.1 x = true) ∧ (∀ x, s'.1 x = true → s.1 x = true ∨ ∀ t, t ∈ T x → s'.1 t = true) := by
  induction h with
  | nil => exact ⟨fun x hx => (List.not_mem_nil hx).elim, fun x hx => .inl hx⟩
  | @skip t ts S o s' hS h ih =>
    refine ⟨fun x hx => ?_, ih.2⟩
    rcases List.mem_cons.1 hx with rfl | hx
    · exact Kids.mono h _ hS
    · exact ih.1 x hx
  | @go t ts S o s1 s' hS h1 h2 ih1 ih2 =>
    have m1 := Kids.mono h1
    have m2 := Kids.mono h2
    have ht : s1.1 t = true := m1 t (by simp [addS])
    refine ⟨fun x hx => ?_, fun x hx => ?_⟩
    · rcases List.mem_cons.1 hx with rfl | hx
      · exact m2 _ ht
      · exact ih2.1 x hx
    · rcases ih2.2 x hx with hx | hx
      · rcases ih1.2 x hx with hx | hx
        · by_cases e : x = t
          · subst e
            exact .inr fun y hy => m2 y (ih1.1 y hy)
          · left
            have : (x == t || S x) = true := hx
            simpa [e] using this
        · exact .inr fun y hy => m2 y (hx y hy)
      · exact .inr hx
theorem kids_reach {T : Int → List Int} {ts : List Int} {s s' : DSt} (h : Go.Mor.Kids T ts s s') (hts : ∀ x, x ∈ ts → Reach T x) (hs : ∀ x, s.1 x = true → Reach T x) : ∀ x, s'.1 x = true → Reach T x := by
  induction h with
  | nil => exact hs
  | skip _ _ ih => exact ih (fun x hx => hts x (List.mem_cons_of_mem _ hx)) hs
  | @go t ts S o s1 s' hS h1 h2 ih1 ih2 =>
    have ht := hts t (List.mem_cons_self ..)
    refine ih2 (fun x hx => hts x (List.mem_cons_of_mem _ hx)) (ih1 (fun x hx => .step ht hx) (fun x hx => ?_))
    have hx : (x == t || S x) = true := hx
    by_cases e : x = t
    · exact e ▸ ht
    · exact hs x (by simpa [e] using hx)
theorem kids_new {T : Int → List Int} {ts : List Int} {s s' : DSt} (h : Go.Mor.Kids T ts s s') : ∃ nw, s'.2 = s.2 ++ nw ∧ (∀ x, s'.1 x = true ↔ s.1 x = true ∨ x ∈ nw) ∧ nw.Nodup ∧ (∀ x, x ∈ nw → s.1 x = false) ∧
    (∀ l1 x l2, nw = l1 ++ x :: l2 → x ∈ ts ∨ ∃ y, y ∈ l2 ∧ x ∈ T y) := by
  induction h with
  | nil => exact ⟨[], by simp, by simp, by simp, by simp, by simp⟩
  | @skip t ts S o s' hS h ih =>
    obtain ⟨nw, h1, h2, h3, h4, h5⟩ := ih
    exact ⟨nw, h1, h2, h3, h4, fun l1 x l2 e => (h5 l1 x l2 e).imp (fun h => List.mem_cons_of_mem _ h) id⟩
  | @go t ts S o s1 s' hS h1 h2 ih1 ih2 =>
    obtain ⟨n1, a1, a2, a3, a4, a5⟩ := ih1
    obtain ⟨n2, b1, b2, b3, b4, b5⟩ := ih2
    have a2' : ∀ x, s1.1 x = true ↔ (S x = true ∨ x = t) ∨ x ∈ n1 := by
      intro x
      rw [a2 x]
      have : (addS S t x = true) ↔ (S x = true ∨ x = t) := by simp [addS, or_comm]
      exact or_congr this Iff.rfl
    have b4' : ∀ x, x ∈ n2 → S x = false ∧ x ≠ t ∧ x ∉ n1 := by
      intro x hx
      have h0 : s1.1 x = false := b4 x hx
      have : ¬ s1.1 x = true := by rw [h0]; simp
      rw [a2' x] at this
      refine ⟨by simpa using fun h => this (.inl (.inl h)), fun h => this (.inl (.inr h)), fun h => this (.inr h)⟩
    have a4' : ∀ x, x ∈ n1 → S x = false ∧ x ≠ t := by
      intro x hx
      have h0 := a4 x hx
      have : ¬ (addS S t x = true) := by
        have h0 : addS S t x = false := h0
        rw [h0]; simp
      have h3 : ¬ (x = t ∨ S x = true) := by simpa [addS] using this
      exact ⟨by simpa using fun h => h3 (.inr h), fun h => h3 (.inl h)⟩
    refine ⟨n1 ++ t :: n2, ?_, ?_, ?_, ?_, ?_⟩
    · rw [b1]
      simp only [a1]
      simp
    · intro x
      rw [b2 x]
      have := a2' x
      simp only [this, List.mem_append, List.mem_cons]
      constructor
      · rintro (((h | h) | h) | h)
        · exact .inl h
        · exact .inr (.inr (.inl h))
        · exact .inr (.inl h)
        · exact .inr (.inr (.inr h))
      · rintro (h | h | h | h)
        · exact .inl (.inl (.inl h))
        · exact .inl (.inr h)
        · exact .inl (.inl (.inr h))
        · exact .inr h
    · rw [List.nodup_append]
      refine ⟨a3, List.nodup_cons.2 ⟨fun h => (b4' t h).2.1 rfl, b3⟩, fun x hx y hy => ?_⟩
      rcases List.mem_cons.1 hy with rfl | hy
      · exact (a4' x hx).2
      · rintro rfl
        exact (b4' x hy).2.2 hx
    · intro x hx
      rcases List.mem_append.1 hx with hx | hx
      · exact (a4' x hx).1
      · rcases List.mem_cons.1 hx with rfl | hx
        · exact hS
        · exact (b4' x hx).1
    · intro l1 x l2 e
      rcases List.append_eq_append_iff.1 e with ⟨p, e1, e2⟩ | ⟨p, e1, e2⟩
      · -- x behind n1
        cases p with
        | nil =>
          simp only [List.nil_append, List.cons.injEq] at e2
          exact .inl (by rw [← e2.1]; exact List.mem_cons_self ..)
        | cons q p =>
          simp only [List.cons_append, List.cons.injEq] at e2
          rcases b5 p x l2 e2.2 with h | ⟨y, hy, h⟩
          · exact .inl (List.mem_cons_of_mem _ h)
          · exact .inr ⟨y, hy, h⟩
      · cases p with
        | nil =>
          simp only [List.nil_append, List.cons.injEq] at e2
          exact .inl (by rw [e2.1]; exact List.mem_cons_self ..)
        | cons q p =>
          simp only [List.cons_append, List.cons.injEq] at e2
          obtain ⟨rfl, e2⟩ := e2
          right
          rcases a5 l1 x p e1 with h | ⟨y, hy, h⟩
          · exact ⟨t, by rw [e2]; simp, h⟩
          · exact ⟨y, by rw [e2]; simp [hy], h⟩
def metF (T : Int → List Int) (n : Nat) : Int → Bool := (kidsF T (3 * n + 3) (T 0) (addS (fun _ => false) 0, [])).1
theorem met_kids {T : Int → List Int} {n : Nat} (hT : ∀ t, (T t).length ≤ 2) (hR : ∀ t x, x ∈ T t → 0 ≤ x ∧ x < n) : ∃ s, Go.Mor.Kids T (T 0) (addS (fun _ => false) 0, []) s ∧ s.1 = metF T n := by
  refine ⟨_, kids_total (n := n) hT hR (3 * n + 3) _ _ (fun x h => hR 0 x h) ?_, rfl⟩
  have h1 := hT 0
  have h2 := unmet_le n (addS (fun _ => false) 0)
  simp only
  by_cases h : n = 0
  · have : T 0 = [] := by
      cases h3 : T 0 with
      | nil => rfl
      | cons x l => have := hR 0 x (by rw [h3]; exact List.mem_cons_self ..); omega
    rw [this]
    simp
    omega
  · have := unmet_add (n := n) (S := fun _ => false) (t := 0) (by omega) (by omega) rfl
    have h3 := unmet_le n (fun _ => false)
    omega
theorem kids_zero {T : Int → List Int} {s : DSt} (h : Go.Mor.Kids T (T 0) (addS (fun _ => false) 0, []) s) (x : Int) : s.1 x = true ↔ Reach T x := by
  constructor
  · refine kids_reach h (fun x hx => .step .zero hx) (fun x hx => ?_) x
    have : x = 0 := by simpa [addS] using hx
    exact this ▸ .zero
  · obtain ⟨c1, c2⟩ := kids_closed h
    have h0 : s.1 0 = true := Kids.mono h 0 (by simp [addS])
    intro hr
    induction hr with
    | zero => exact h0
    | @step x t _ ht ih =>
      rcases c2 x ih with hx | hx
      · have : x = 0 := by simpa [addS] using hx
        exact c1 t (this ▸ ht)
      · exact hx t ht
theorem met_reach {T : Int → List Int} {n : Nat} (hT : ∀ t, (T t).length ≤ 2) (hR : ∀ t x, x ∈ T t → 0 ≤ x ∧ x < n) (x : Int) : metF T n x = true ↔ Reach T x := by
  obtain ⟨s, h, e⟩ := met_kids hT hR
  rw [← e]
  exact kids_zero h x
theorem reach_in {T : Int → List Int} {n : Nat} (hn : 0 < n) (hR : ∀ t x, x ∈ T t → 0 ≤ x ∧ x < (n : Int)) {x : Int} (h : Reach T x) : 0 ≤ x ∧ x < n := by
  cases h with
  | zero => omega
  | step _ ht => exact hR _ _ ht
def walkB (bs : List SB) (bar : Int) (x : Int) : Bool := !(bar == 0) && metF (tgb (tg bs) bar) bs.length x
def walkL (bs : List SB) (bar : Int) : List Bool := (List.range bs.length).map (fun i : Nat => walkB bs bar (i : Int))
theorem walkL_len (bs : List SB) (bar : Int) : (walkL bs bar).length = bs.length := by simp [walkL]
theorem walkL_get {bs : List SB} {bar : Int} {i : Nat} (h : i < bs.length) : (walkL bs bar).getD i false = walkB bs bar (i : Int) := by
  simp [walkL, List.getD, h]
theorem walkB_reach (bs : List SB) (bar : Int) (x : Int) : walkB bs bar x = true ↔ bar ≠ 0 ∧ Reach (tgb (tg bs) bar) x := by
  unfold walkB
  rw [Bool.and_eq_true, met_reach (fun t => tgb_len (fun t => tg_len bs t) bar t) (fun t x h => tg_mem (mem_tgb.1 h).1) x]
  simp
theorem bools_ext {n : Nat} {l : List Bool} {S : Int → Bool} (h : BoolsOf n l S) {m : List Bool} (hm : m.length = n) (hg : ∀ i : Nat, i < n → m.getD i false = S (i : Int)) : l = m := by
  apply List.ext_getElem?
  intro i
  by_cases hi : i < n
  · have h1 := h.2 i hi
    have h2 := hg i hi
    have e1 : i < l.length := by rw [h.1]; exact hi
    have e2 : i < m.length := by rw [hm]; exact hi
    simp only [List.getD, List.getElem?_eq_getElem e1, List.getElem?_eq_getElem e2, Option.getD_some] at h1 h2 ⊢
    rw [h1, h2]
  · rw [List.getElem?_eq_none (by rw [h.1]; omega), List.getElem?_eq_none (by rw [hm]; omega)]
structure BFS (T : Int → List Int) (bar : Int) (S : Int → Bool) (todo : List Int) (i k : Nat) : Prop where
  mem : ∀ x, S x = true ↔ x ∈ todo
  reach : ∀ x, x ∈ todo → Reach (tgb T bar) x
  zero : (0 : Int) ∈ todo
  done : ∀ j x, j < i → todo[j]? = some x → ∀ t, t ∈ T x → t ≠ bar → t ∈ todo
  part : ∀ x, todo[i]? = some x → ∀ t, t ∈ (T x).take k → t ≠ bar → t ∈ todo
theorem BFS.start (T : Int → List Int) (bar : Int) : BFS T bar (addS (fun _ => false) 0) [0] 0 0 := by
  refine ⟨fun x => by simp [addS], fun x hx => ?_, by simp, fun j x h => by omega, fun x _ t h => by simp at h⟩
  have : x = 0 := by simpa using hx
  exact this ▸ .zero
theorem BFS.skip {T : Int → List Int} {bar : Int} {S : Int → Bool} {todo : List Int} {i k : Nat} {b t : Int} (h : BFS T bar S todo i k) (hi : todo[i]? = some b) (hk : (T b)[k]? = some t) (ht : S t = true ∨ t = bar) : BFS T bar S todo i (k + 1) := by
  refine ⟨h.mem, h.reach, h.zero, h.done, fun x hx y hy hne => ?_⟩
  rw [hi] at hx
  injection hx with hx
  subst hx
  obtain ⟨hlt, he⟩ := List.getElem?_eq_some_iff.1 hk
  rw [List.take_succ_eq_append_getElem hlt, he] at hy
  rcases List.mem_append.1 hy with hy | hy
  · exact h.part b hi y hy hne
  · have : y = t := by simpa using hy
    subst this
    rcases ht with ht | ht
    · exact (h.mem y).1 ht
    · exact (hne ht).elim
theorem BFS.push {T : Int → List Int} {bar : Int} {S : Int → Bool} {todo : List Int} {i k : Nat} {b t : Int} (h : BFS T bar S todo i k) (hi : todo[i]? = some b) (hk : (T b)[k]? = some t) (ht : t ≠ bar) : BFS T bar (addS S t) (todo ++ [t]) i (k + 1) := by
  have hlt : i < todo.length := (List.getElem?_eq_some_iff.1 hi).1
  obtain ⟨hlk, he⟩ := List.getElem?_eq_some_iff.1 hk
  refine ⟨fun x => ?_, fun x hx => ?_, List.mem_append_left _ h.zero, fun j x hj hx y hy hne => ?_, fun x hx y hy hne => ?_⟩
  · have := h.mem x
    simp [addS, this, or_comm]
  · rcases List.mem_append.1 hx with hx | hx
    · exact h.reach x hx
    · have : x = t := by simpa using hx
      subst this
      exact .step (h.reach b (List.mem_of_getElem? hi)) (mem_tgb.2 ⟨List.mem_of_getElem? hk, ht⟩)
  · rw [List.getElem?_append_left (by omega)] at hx
    exact List.mem_append_left _ (h.done j x hj hx y hy hne)
  · rw [List.getElem?_append_left hlt, hi] at hx
    injection hx with hx
    subst hx
    rw [List.take_succ_eq_append_getElem hlk, he] at hy
    rcases List.mem_append.1 hy with hy | hy
    · exact List.mem_append_left _ (h.part b hi y hy hne)
    · exact List.mem_append_right _ hy
theorem BFS.next {T : Int → List Int} {bar : Int} {S : Int → Bool} {todo : List Int} {i k : Nat} {b : Int} (h : BFS T bar S todo i k) (hi : todo[i]? = some b) (hk : (T b).length ≤ k) : BFS T bar S todo (i + 1) 0 := by
  refine ⟨h.mem, h.reach, h.zero, fun j x hj hx y hy hne => ?_, fun x _ y hy => by simp at hy⟩
  by_cases e : j = i
  · subst e
    rw [hi] at hx
    injection hx with hx
    subst hx
    exact h.part b hi y (by rw [List.take_of_length_le hk]; exact hy) hne
  · exact h.done j x (by omega) hx y hy hne
theorem BFS.fin {T : Int → List Int} {bar : Int} {S : Int → Bool} {todo : List Int} {i k : Nat} (h : BFS T bar S todo i k) (hi : todo.length ≤ i) (x : Int) : S x = true ↔ Reach (tgb T bar) x := by
  rw [h.mem x]
  refine ⟨h.reach x, fun hr => ?_⟩
  induction hr with
  | zero => exact h.zero
  | @step x t _ ht ih =>
    obtain ⟨ht, hne⟩ := mem_tgb.1 ht
    obtain ⟨j, hj, e⟩ := List.mem_iff_getElem.1 ih
    exact h.done j x (by omega) (by rw [List.getElem?_eq_getElem hj, e]) t ht hne
theorem walk_ret {bs : List SB} {bar : Int} {S : Int → Bool} {inl : List Bool} {todo : List Int} {i k : Nat} (hin : BoolsOf bs.length inl S) (h : BFS (tg bs) bar S todo i k) (hi : todo.length ≤ i) (hb : bar ≠ 0) : inl = walkL bs bar := by
  refine bools_ext hin (walkL_len _ _) (fun j hj => ?_)
  rw [walkL_get hj, Bool.eq_iff_iff, walkB_reach, h.fin hi]
  exact ⟨fun h => h.2, fun h => ⟨hb, h⟩⟩
theorem walk_none {bs : List SB} {bar : Int} (h : bs.length = 0 ∨ bar = 0) : List.replicate bs.length false = walkL bs bar := by
  refine bools_ext (BoolsOf.start bs.length) (walkL_len _ _) (fun j hj => ?_)
  rw [walkL_get hj]
  have : bar = 0 := by omega
  simp [walkB, this]
end Go.Mor
namespace Go.Mor
open Go.RowKit
def FamOf {α : Type} (enc : α → Value) (rows : List RowV) (l : List (List α)) : Prop := rows.map (fun r => (r.n, r.xs)) = l.map (fun x => (x.length, x.map enc))
section
variable {α : Type} {enc : α → Value} {rows : List RowV} {l : List (List α)}
theorem FamOf.len (h : FamOf enc rows l) : rows.length = l.length := by
  have := congrArg List.length h
  simpa using this
theorem FamOf.get (h : FamOf enc rows l) {i : Nat} {x : List α} (hi : l[i]? = some x) : ∃ A c, rows[i]? = some ⟨A, x.length, c, x.map enc⟩ := by
  have h1 : (rows.map (fun r => (r.n, r.xs)))[i]? = (l.map (fun x => (x.length, x.map enc)))[i]? := by rw [h]
  simp only [List.getElem?_map, hi, Option.map_some] at h1
  cases h2 : rows[i]? with
  | none => rw [h2] at h1; simp at h1
  | some r =>
    rw [h2] at h1
    simp only [Option.map_some, Option.some.injEq, Prod.mk.injEq] at h1
    obtain ⟨A, n, c, xs⟩ := r
    simp only at h1
    obtain ⟨rfl, rfl⟩ := h1
    exact ⟨A, c, rfl⟩
theorem FamOf.push (h : FamOf enc rows l) {A : Option Addr} {n c : Nat} {xs : List Value} {x : List α} (hn : n = x.length) (hx : xs = x.map enc) : FamOf enc (rows ++ [⟨A, n, c, xs⟩]) (l ++ [x]) := by
  subst hn
  subst hx
  unfold FamOf at h ⊢
  rw [List.map_append, List.map_append, h]
  rfl
theorem FamOf.next {d : Nat} (h : FamOf enc rows (l.take d)) {A : Option Addr} {n c : Nat} {xs : List Value} {x : List α} (hd : l[d]? = some x) (hn : n = x.length) (hx : xs = x.map enc) : FamOf enc (rows ++ [⟨A, n, c, xs⟩]) (l.take (d + 1)) := by
  obtain ⟨hlt, he⟩ := List.getElem?_eq_some_iff.1 hd
  rw [List.take_succ_eq_append_getElem hlt, he]
  exact h.push hn hx
theorem FamOf.set (h : FamOf enc rows l) {A : Option Addr} {n c i : Nat} {xs : List Value} {x : List α} (hn : n = x.length) (hx : xs = x.map enc) : FamOf enc (rows.set i ⟨A, n, c, xs⟩) (l.set i x) := by
  subst hn
  subst hx
  unfold FamOf at h ⊢
  rw [List.map_set, List.map_set, h]
theorem FamOf.all {d : Nat} (h : FamOf enc rows (l.take d)) (hd : l.length ≤ d) : FamOf enc rows l := by rwa [List.take_of_length_le hd] at h
theorem FamOf.nils (n : Nat) : FamOf enc (List.replicate n nilV) (List.replicate n ([] : List α)) := by
  unfold FamOf
  simp [nilV]
end
theorem fam_rd {w : World} {e : Nat} {rows : List RowV} {A : Option Addr} {n c i : Nat} {xs : List Value} (h : (Res.fam e rows).holds w) (hi : rows[i]? = some ⟨A, n, c, xs⟩) : (Res.rd A xs).holds w := row_rd (fam_get h hi)
theorem getD_of {α : Type} {l : List α} {i : Nat} {x d : α} (h : l[i]? = some x) : l.getD i d = x := by simp [List.getD, h]
def overB (bs : List SB) (d b : Int) : Bool := walkB bs (-1) d && (walkB bs (-1) b && !(walkB bs d b))
def overL (bs : List SB) : List (List Bool) := (List.range bs.length).map (fun d : Nat => (List.range bs.length).map (fun b : Nat => overB bs (d : Int) (b : Int)))
theorem overL_len (bs : List SB) : (overL bs).length = bs.length := by simp [overL]
theorem overL_row {bs : List SB} {d : Nat} {m : List Bool} (hd : d < bs.length) (h : BoolsOf bs.length m (overB bs (d : Int))) : (overL bs)[d]? = some m := by
  have : m = (List.range bs.length).map (fun b : Nat => overB bs (d : Int) (b : Int)) := bools_ext h (by simp) (fun j hj => by simp [List.getD, hj])
  rw [this]
  simp [overL, hd]
theorem BoolsOf.congr {n : Nat} {l : List Bool} {S S' : Int → Bool} (h : BoolsOf n l S) (e : ∀ i : Nat, i < n → S (i : Int) = S' (i : Int)) : BoolsOf n l S' := ⟨h.1, fun i hi => (h.2 i hi).trans (e i hi)⟩
theorem over_none {bs : List SB} {d : Nat} (h : walkB bs (-1) (d : Int) = false) : BoolsOf bs.length (List.replicate bs.length false) (overB bs (d : Int)) :=
  (BoolsOf.start bs.length).congr (fun i _ => by simp [overB, h])
def overTo (bs : List SB) (d : Int) (k : Nat) (b : Int) : Bool := decide (b < (k : Int)) && overB bs d b
theorem over_start (bs : List SB) (d : Int) : BoolsOf bs.length (List.replicate bs.length false) (overTo bs d 0) :=
  (BoolsOf.start bs.length).congr (fun i _ => by
    have : decide ((i : Int) < ((0 : Nat) : Int)) = false := by simp
    rw [overTo, this]
    rfl)
theorem over_next {bs : List SB} {d : Int} {k : Nat} {m : List Bool} {v : Bool} (h : BoolsOf bs.length m (overTo bs d k)) (hk : k < bs.length) (hv : v = overB bs d (k : Int)) : BoolsOf bs.length (m.set k v) (overTo bs d (k + 1)) := by
  refine ⟨by simp [h.1], fun j hj => ?_⟩
  by_cases e : k = j
  · subst e
    have : k < m.length := by rw [h.1]; exact hk
    have h2 : decide ((k : Int) < ((k + 1 : Nat) : Int)) = true := by simp; omega
    simp only [overTo, h2, Bool.true_and]
    simp [List.getD, this, hv]
  · have h1 := h.2 j hj
    have h2 : decide ((j : Int) < ((k + 1 : Nat) : Int)) = decide ((j : Int) < (k : Int)) := by
      rw [decide_eq_decide]
      omega
    rw [overTo, h2]
    rw [overTo] at h1
    rw [← h1]
    simp [List.getD, List.getElem?_set_ne e]
theorem over_done {bs : List SB} {d : Int} {k : Nat} {m : List Bool} (h : BoolsOf bs.length m (overTo bs d k)) (hk : bs.length ≤ k) : BoolsOf bs.length m (overB bs d) :=
  h.congr (fun i hi => by
    have : decide ((i : Int) < (k : Int)) = true := by simp; omega
    rw [overTo, this]
    rfl)
theorem over_val {bs : List SB} {d : Nat} {b : Nat} (hd : walkB bs (-1) (d : Int) = true) (hb : walkB bs (-1) (b : Int) = true) : (!(walkB bs (d : Int) (b : Int))) = overB bs (d : Int) (b : Int) := by simp [overB, hd, hb]
theorem over_off {bs : List SB} {d b : Int} (hb : walkB bs (-1) b = false) : false = overB bs d b := by simp [overB, hb]
def at2 (l : List (List Bool)) (i j : Nat) : Bool := (l.getD i []).getD j false
def bestTo (l : List (List Bool)) (b : Nat) : Nat → Int
  | 0 => -1
  | k + 1 => if k ≠ b ∧ at2 l k b = true ∧ (bestTo l b k < 0 ∨ at2 l (bestTo l b k).toNat k = true) then (k : Int) else bestTo l b k
def aboveOfL (l : List (List Bool)) : List Int := (List.range l.length).map (fun b => bestTo l b l.length)
def Square (l : List (List Bool)) : Prop := ∀ (i : Nat) (x : List Bool), l[i]? = some x → x.length = l.length
theorem overL_square (bs : List SB) : Square (overL bs) := by
  intro i x h
  rw [overL_len]
  have := List.mem_of_getElem? h
  simp only [overL, List.mem_map] at this
  obtain ⟨d, _, rfl⟩ := this
  simp
theorem sq_get {l : List (List Bool)} (i : Nat) (hi : i < l.length) : ∃ x, l[i]? = some x := ⟨_, List.getElem?_eq_getElem hi⟩
theorem at2_of {l : List (List Bool)} {i j : Nat} {x : List Bool} (h : l[i]? = some x) : at2 l i j = x.getD j false := by simp [at2, List.getD, h]
def raboveL (bs : List SB) : List Int := aboveOfL (overL bs)
theorem srcs_mem {bs : List SB} {y x : Int} (h : x ∈ srcs bs y) : 0 ≤ x ∧ x < bs.length := by
  simp only [srcs, srcsTo, List.mem_map, List.mem_filter, List.mem_range] at h
  obtain ⟨i, ⟨h1, _⟩, rfl⟩ := h
  omega
end Go.Mor
namespace Go.Mor
open Go.RowKit
theorem tgx_nodup (n : Nat) (x : SB) : (tgx n x).Nodup := by
  unfold tgx
  refine List.Pairwise.filter _ ?_
  split
  · simp
  · split
    · split
      · simp
      · rename_i h
        simp [h]
    · simp
theorem tg_nodup (bs : List SB) (b : Int) : (tg bs b).Nodup := by
  unfold tg
  split
  · split
    · exact tgx_nodup _ _
    · simp
  · simp
def allTo (bs : List SB) (i : Nat) : List (List Int) := (List.range bs.length).map (fun t : Nat => srcsTo bs (t : Int) i)
def allL (bs : List SB) : List (List Int) := (List.range bs.length).map (fun t : Nat => srcs bs (t : Int))
def allMid (bs : List SB) (i k : Nat) : List (List Int) := (List.range bs.length).map (fun t : Nat => srcsTo bs (t : Int) i ++ (if ((tg bs (i : Int)).take k).contains (t : Int) = true then [(i : Int)] else []))
theorem all_start (bs : List SB) : allTo bs 0 = List.replicate bs.length [] := by
  unfold allTo
  apply List.ext_getElem?
  intro t
  by_cases h : t < bs.length
  · simp [h, srcsTo]
  · rw [List.getElem?_eq_none (by simpa using h), List.getElem?_eq_none (by simpa using h)]
theorem all_mid (bs : List SB) (i : Nat) : allMid bs i 0 = allTo bs i := by
  unfold allMid allTo
  simp
theorem all_next {bs : List SB} {i k : Nat} (hk : (tg bs (i : Int)).length ≤ k) : allMid bs i k = allTo bs (i + 1) := by
  unfold allMid allTo
  apply List.map_congr_left
  intro t _
  rw [srcsTo_succ, List.take_of_length_le hk]
theorem all_end (bs : List SB) : allTo bs bs.length = allL bs := rfl
theorem mid_get {bs : List SB} {i k ti : Nat} (hk : (tg bs (i : Int))[k]? = some (ti : Int)) (ht : ti < bs.length) : (allMid bs i k)[ti]? = some (srcsTo bs (ti : Int) i) := by
  have hn := tg_nodup bs (i : Int)
  have hno : ¬ (ti : Int) ∈ (tg bs (i : Int)).take k := by
    intro h
    obtain ⟨hlt, he⟩ := List.getElem?_eq_some_iff.1 hk
    obtain ⟨j, hj, he2⟩ := List.mem_take_iff_getElem.1 h
    exact List.pairwise_iff_getElem.1 hn j k (by omega) hlt (by omega) (he2.trans he.symm)
  unfold allMid
  rw [List.getElem?_map, List.getElem?_range ht]
  simp [hno]
theorem mid_set {bs : List SB} {i k ti : Nat} (hk : (tg bs (i : Int))[k]? = some (ti : Int)) (ht : ti < bs.length) : (allMid bs i k).set ti (srcsTo bs (ti : Int) i ++ [(i : Int)]) = allMid bs i (k + 1) := by
  obtain ⟨hlt, he⟩ := List.getElem?_eq_some_iff.1 hk
  apply List.ext_getElem?
  intro t
  by_cases h : ti = t
  · subst h
    rw [List.getElem?_set_self (by simpa [allMid] using ht)]
    unfold allMid
    rw [List.getElem?_map, List.getElem?_range ht, List.take_succ_eq_append_getElem hlt, he]
    simp
  · rw [List.getElem?_set_ne h]
    unfold allMid
    rw [List.getElem?_map, List.getElem?_map]
    by_cases h2 : t < bs.length
    · rw [List.getElem?_range h2, List.take_succ_eq_append_getElem hlt, he]
      have h3 : ¬ ((t : Int) = (ti : Int)) := by omega
      simp [h3]
    · rw [List.getElem?_eq_none (by simpa using h2)]
      rfl
theorem allL_get {bs : List SB} {t : Nat} (h : t < bs.length) : (allL bs)[t]? = some (srcs bs (t : Int)) := by simp [allL, h]
theorem allL_len (bs : List SB) : (allL bs).length = bs.length := by simp [allL]
theorem set_twice {rows : List RowV} {i : Nat} {r : RowV} : (rows.set i nilV).set i r = rows.set i r := List.set_set ..
end Go.Mor
namespace Go.Mor
open Go.RowKit
section
variable (T : Int → List Int)
def Dm (d x : Int) : Prop := ¬ (d ≠ 0 ∧ Reach (tgb T d) x)
inductive RA (pl : Int → Int) (d : Int) : Nat → Int → Prop
  | zero (k : Nat) : d ≠ 0 → RA pl d k 0
  | adv {k : Nat} {x t : Int} : RA pl d k x → t ∈ T x → t ≠ d → pl x < pl t → RA pl d k t
  | ret {k : Nat} {x t : Int} : RA pl d k x → t ∈ T x → t ≠ d → RA pl d (k + 1) t
structure Plc (pl : Int → Int) : Prop where
  reach : ∀ x, 0 ≤ pl x ↔ Reach T x
  zero : pl 0 = 0
  inj : ∀ x y, 0 ≤ pl x → pl x = pl y → x = y
  src : ∀ x, 0 ≤ pl x → x ≠ 0 → ∃ s, 0 ≤ pl s ∧ pl s < pl x ∧ x ∈ T s
end
section
variable {T : Int → List Int} {pl : Int → Int}
theorem RA.self {d : Int} {k : Nat} : ¬ RA T pl d k d := by
  intro h
  cases h with
  | zero _ h => exact h rfl
  | adv _ _ h _ => exact h rfl
  | ret _ _ h => exact h rfl
theorem RA.mono {d x : Int} {k : Nat} (h : RA T pl d k x) : RA T pl d (k + 1) x := by
  induction h with
  | zero k h => exact .zero _ h
  | adv _ ht hne hl ih => exact .adv ih ht hne hl
  | ret _ ht hne ih => exact .ret ih ht hne
theorem RA.le {d x : Int} {k m : Nat} (h : RA T pl d k x) (hk : k ≤ m) : RA T pl d m x := by
  induction hk with
  | refl => exact h
  | step _ ih => exact ih.mono
theorem RA.reach {d x : Int} {k : Nat} (h : RA T pl d k x) : Reach T x := by
  induction h with
  | zero => exact .zero
  | adv _ ht _ _ ih => exact .step ih ht
  | ret _ ht _ ih => exact .step ih ht
theorem RA.ex {d x : Int} (hd : d ≠ 0) (h : Reach (tgb T d) x) : ∃ k, RA T pl d k x := by
  induction h with
  | zero => exact ⟨0, .zero 0 hd⟩
  | step _ ht ih =>
    obtain ⟨k, hk⟩ := ih
    exact ⟨k + 1, .ret hk (mem_tgb.1 ht).1 (mem_tgb.1 ht).2⟩
theorem RA.cut {d b x : Int} {k : Nat} (h : RA T pl d k x) : RA T pl b k x ∨ RA T pl d k b := by
  induction h with
  | zero k h =>
    by_cases e : b = 0
    · subst e; exact .inr (.zero k h)
    · exact .inl (.zero k e)
  | @adv k x t hx ht hne hl ih =>
    rcases ih with ih | ih
    · by_cases e : t = b
      · subst e; exact .inr (.adv hx ht hne hl)
      · exact .inl (.adv ih ht e hl)
    · exact .inr ih
  | @ret k x t hx ht hne ih =>
    rcases ih with ih | ih
    · by_cases e : t = b
      · subst e; exact .inr (.ret hx ht hne)
      · exact .inl (.ret ih ht e)
    · exact .inr ih.mono
theorem RA.stable {d : Int} {k : Nat} (hs : ∀ x, RA T pl d (k + 1) x → RA T pl d k x) : ∀ m x, RA T pl d m x → RA T pl d k x := by
  intro m x h
  induction h with
  | zero _ h => exact .zero k h
  | adv _ ht hne hl ih => exact .adv ih ht hne hl
  | ret _ ht hne ih => exact hs _ (.ret ih ht hne)
open Classical in
theorem RA.grow {n : Nat} (hR : ∀ x, Reach T x → 0 ≤ x ∧ x < (n : Int)) (d : Int) (k : Nat) : (∃ j, j ≤ k ∧ ∀ x, RA T pl d (j + 1) x → RA T pl d j x) ∨ unmet n (fun x => decide (RA T pl d k x)) + k ≤ n := by
  induction k with
  | zero => exact .inr (by have := unmet_le n (fun x => decide (RA T pl d 0 x)); omega)
  | succ k ih =>
    rcases ih with ⟨j, hj, h⟩ | ih
    · exact .inl ⟨j, by omega, h⟩
    · by_cases hs : ∀ x, RA T pl d (k + 1) x → RA T pl d k x
      · exact .inl ⟨k, by omega, hs⟩
      · right
        have ⟨x, hx⟩ := Classical.not_forall.1 hs
        have ⟨h1, h2⟩ := Classical.not_imp.1 hx
        obtain ⟨r0, r1⟩ := hR x h1.reach
        have hu := unmet_add (n := n) (S := fun x => decide (RA T pl d k x)) (t := x) r0 r1 (by simpa using h2)
        have hm := unmet_mono (n := n) (S := addS (fun x => decide (RA T pl d k x)) x) (S' := fun x => decide (RA T pl d (k + 1) x)) (fun y hy => by
          simp only [addS, Bool.or_eq_true, beq_iff_eq, decide_eq_true_eq] at hy ⊢
          rcases hy with rfl | hy
          · exact h1
          · exact hy.mono)
        omega
theorem RA.all {n : Nat} (hR : ∀ x, Reach T x → 0 ≤ x ∧ x < (n : Int)) {d x : Int} (h : ¬ RA T pl d (n + 1) x) : Dm T d x := by
  rintro ⟨hd, hr⟩
  obtain ⟨m, hm⟩ := RA.ex (pl := pl) hd hr
  rcases RA.grow (pl := pl) hR d (n + 1) with ⟨j, hj, hs⟩ | hu
  · exact h ((RA.stable hs m x hm).le hj)
  · omega
theorem Dm.self (x : Int) : Dm T x x := by
  rintro ⟨h0, h⟩
  cases h with
  | zero => exact h0 rfl
  | step _ ht => exact (mem_tgb.1 ht).2 rfl
theorem Dm.at_zero {d : Int} (h : Dm T d 0) : d = 0 := by
  by_cases e : d = 0
  · exact e
  · exact absurd ⟨e, Reach.zero⟩ h
theorem Dm.src {d x s : Int} (h : Dm T d x) (hne : d ≠ x) (hx : x ∈ T s) : Dm T d s := by
  rintro ⟨hd, hr⟩
  exact h ⟨hd, .step hr (mem_tgb.2 ⟨hx, fun e => hne e.symm⟩)⟩
theorem Dm.le (hp : Plc T pl) {d x : Int} (hx : 0 ≤ pl x) (h : Dm T d x) : pl d ≤ pl x := by
  by_cases hlt : pl d ≤ pl x
  · exact hlt
  · exfalso
    have hd : d ≠ 0 := by
      rintro rfl
      rw [hp.zero] at hlt
      omega
    refine h ⟨hd, ?_⟩
    clear h
    have key : ∀ (m : Nat) (x : Int), 0 ≤ pl x → pl x < pl d → (pl x).toNat ≤ m → Reach (tgb T d) x := by
      intro m
      induction m with
      | zero =>
        intro x h0 _ hm
        have : x = 0 := hp.inj x 0 h0 (by rw [hp.zero]; omega)
        exact this ▸ .zero
      | succ m ih =>
        intro x h0 h1 hm
        by_cases e : x = 0
        · exact e ▸ .zero
        · obtain ⟨s, s0, s1, hs⟩ := hp.src x h0 e
          exact .step (ih s s0 (by omega) (by omega)) (mem_tgb.2 ⟨hs, fun e => by subst e; omega⟩)
    exact key _ x hx (by omega) (Nat.le_refl _)
theorem Dm.reach {d x : Int} (hx : Reach T x) (h : Dm T d x) : Reach T d := by
  by_cases hd : Reach T d
  · exact hd
  · exfalso
    refine h ⟨fun e => hd (e ▸ .zero), ?_⟩
    induction hx with
    | zero => exact .zero
    | @step y t hy ht ih =>
      have hih : Reach (tgb T d) y := by
        by_cases h2 : Dm T d y
        · exact ih h2
        · exact (Classical.not_not.1 h2).2
      exact .step hih (mem_tgb.2 ⟨ht, fun e => hd (e ▸ .step hy ht)⟩)
inductive Anc (up : Int → Int) : Int → Int → Prop
  | refl (x : Int) : Anc up x x
  | step {x d : Int} : x ≠ 0 → Anc up (up x) d → Anc up x d
theorem Anc.trans {up : Int → Int} {x y z : Int} (h : Anc up x y) (h' : Anc up y z) : Anc up x z := by
  induction h with
  | refl => exact h'
  | step hne _ ih => exact .step hne (ih h')
def Prc (pl up : Int → Int) (x : Int) : Prop := 0 ≤ pl x ∧ (x = 0 ∨ 0 ≤ up x)
structure Up (T : Int → List Int) (pl up : Int → Int) : Prop where
  low : ∀ x, Prc pl up x → x ≠ 0 → Prc pl up (up x) ∧ pl (up x) < pl x
  dom : ∀ x d, Prc pl up x → x ≠ 0 → Dm T d x → d ≠ x → Dm T d (up x)
theorem Anc.zero {up : Int → Int} {d : Int} (h : Anc up 0 d) : d = 0 := by
  cases h with
  | refl => rfl
  | step h _ => exact absurd rfl h
theorem Anc.prc {up : Int → Int} (hu : Up T pl up) {x d : Int} (h : Anc up x d) (hx : Prc pl up x) : Prc pl up d ∧ pl d ≤ pl x ∧ (d ≠ x → pl d < pl x) := by
  induction h with
  | refl => exact ⟨hx, Int.le_refl _, fun h => absurd rfl h⟩
  | @step x d hne _ ih =>
    obtain ⟨h1, h2⟩ := hu.low x hx hne
    obtain ⟨a, b, c⟩ := ih h1
    exact ⟨a, by omega, fun _ => by omega⟩
theorem Up.anc {up : Int → Int} (hu : Up T pl up) {x d : Int} (hx : Prc pl up x) (h : Dm T d x) : Anc up x d := by
  have key : ∀ (m : Nat) (x : Int), Prc pl up x → (pl x).toNat ≤ m → Dm T d x → Anc up x d := by
    intro m
    induction m with
    | zero =>
      intro x hx hm h
      by_cases e : d = x
      · exact e ▸ .refl _
      · by_cases e0 : x = 0
        · subst e0; exact absurd h.at_zero e
        · have h2 := hu.low x hx e0
          have := h2.1.1
          omega
    | succ m ih =>
      intro x hx hm h
      by_cases e : d = x
      · exact e ▸ .refl _
      · by_cases e0 : x = 0
        · subst e0; exact absurd h.at_zero e
        · have h2 := hu.low x hx e0
          have := h2.1.1
          exact .step e0 (ih _ h2.1 (by omega) (hu.dom x d hx e0 h e))
  exact key _ x hx (Nat.le_refl _) h
inductive Climb (pl up : Int → Int) : Int → Int → Int → Prop
  | done (x : Int) : Climb pl up x x x
  | left {a b c : Int} : pl b < pl a → Climb pl up (up a) b c → Climb pl up a b c
  | right {a b c : Int} : pl a < pl b → Climb pl up a (up b) c → Climb pl up a b c
theorem Climb.what {up : Int → Int} (hp : Plc T pl) (hu : Up T pl up) {a b c : Int} (h : Climb pl up a b c) (ha : Prc pl up a) (hb : Prc pl up b) :
    Prc pl up c ∧ Anc up a c ∧ Anc up b c ∧ ∀ d, Dm T d a → Dm T d b → Dm T d c := by
  induction h with
  | done x => exact ⟨ha, .refl _, .refl _, fun d h _ => h⟩
  | @left a b c hlt _ ih =>
    have hne : a ≠ 0 := by
      rintro rfl
      rw [hp.zero] at hlt
      have := hb.1
      omega
    obtain ⟨h1, _⟩ := hu.low a ha hne
    obtain ⟨q1, q2, q3, q4⟩ := ih h1 hb
    refine ⟨q1, .step hne q2, q3, fun d hd hd' => q4 d (hu.dom a d ha hne hd ?_) hd'⟩
    rintro rfl
    have := Dm.le hp hb.1 hd'
    omega
  | @right a b c hlt _ ih =>
    have hne : b ≠ 0 := by
      rintro rfl
      rw [hp.zero] at hlt
      have := ha.1
      omega
    obtain ⟨h1, _⟩ := hu.low b hb hne
    obtain ⟨q1, q2, q3, q4⟩ := ih ha h1
    refine ⟨q1, q2, .step hne q3, fun d hd hd' => q4 d hd (hu.dom b d hb hne hd' ?_)⟩
    rintro rfl
    have := Dm.le hp ha.1 hd
    omega
end
end Go.Mor
namespace Go.Mor
open Go.RowKit
section
variable {T : Int → List Int} {pl : Int → Int}
structure Rnd (T : Int → List Int) (pl up : Int → Int) (k : Nat) (j : Int) : Prop where
  ok : Up T pl up
  some : ∀ x, 0 ≤ pl x → x ≠ 0 → (pl x ≤ j ∨ 1 ≤ k) → 0 ≤ up x
  off : ∀ x, (pl x < 0 ∨ x = 0) → up x = -1
  non : k = 0 → ∀ x, j < pl x → up x = -1
  lo : ∀ x d, Prc pl up x → pl x ≤ j → Anc up x d → ¬ RA T pl d k x
  hi : 1 ≤ k → ∀ x d, Prc pl up x → Anc up x d → ¬ RA T pl d (k - 1) x
def Fold (T : Int → List Int) (pl up : Int → Int) (ss : List Int) (to : Int) : Prop :=
  (to = -1 ∧ ∀ s, s ∈ ss → ¬ Prc pl up s) ∨ (Prc pl up to ∧ (∃ s, s ∈ ss ∧ Prc pl up s) ∧ (∀ s, s ∈ ss → Prc pl up s → Anc up s to) ∧ ∀ d, (∀ s, s ∈ ss → Prc pl up s → Dm T d s) → Dm T d to)
variable {up : Int → Int}
theorem Fold.start : Fold T pl up [] (-1) := .inl ⟨rfl, fun _ h => (List.not_mem_nil h).elim⟩
theorem Fold.skip {ss : List Int} {to s : Int} (h : Fold T pl up ss to) (hs : ¬ Prc pl up s) : Fold T pl up (ss ++ [s]) to := by
  have hm : ∀ x, x ∈ ss ++ [s] → Prc pl up x → x ∈ ss := by
    intro x hx hp
    rcases List.mem_append.1 hx with hx | hx
    · exact hx
    · simp only [List.mem_singleton] at hx
      exact absurd (hx ▸ hp) hs
  rcases h with ⟨h1, h2⟩ | ⟨h1, ⟨q, hq, hqp⟩, h2, h3⟩
  · exact .inl ⟨h1, fun x hx hp => h2 x (hm x hx hp) hp⟩
  · exact .inr ⟨h1, ⟨q, List.mem_append_left _ hq, hqp⟩, fun x hx hp => h2 x (hm x hx hp) hp, fun d hd => h3 d (fun x hx hp => hd x (List.mem_append_left _ hx) hp)⟩
theorem Fold.first {ss : List Int} {to s : Int} (h : Fold T pl up ss to) (hto : to < 0) (hr : ∀ x, 0 ≤ pl x → 0 ≤ x) (hs : Prc pl up s) : Fold T pl up (ss ++ [s]) s := by
  rcases h with ⟨h1, h2⟩ | ⟨h1, _⟩
  · refine .inr ⟨hs, ⟨s, by simp, hs⟩, fun x hx hp => ?_, fun d hd => hd s (by simp) hs⟩
    rcases List.mem_append.1 hx with hx | hx
    · exact absurd hp (h2 x hx)
    · simp only [List.mem_singleton] at hx
      exact hx ▸ .refl _
  · have := hr to h1.1
    omega
theorem Fold.meet {ss : List Int} {to s c : Int} (hp : Plc T pl) (hu : Up T pl up) (h : Fold T pl up ss to) (hto : 0 ≤ to) (hs : Prc pl up s) (hc : Climb pl up to s c) : Fold T pl up (ss ++ [s]) c := by
  rcases h with ⟨h1, h2⟩ | ⟨h1, h0, h2, h3⟩
  · omega
  · obtain ⟨q1, q2, q3, q4⟩ := hc.what hp hu h1 hs
    refine .inr ⟨q1, ⟨s, by simp, hs⟩, fun x hx hp => ?_, fun d hd => q4 d (h3 d (fun x hx hp => hd x (List.mem_append_left _ hx) hp)) (hd s (by simp) hs)⟩
    rcases List.mem_append.1 hx with hx | hx
    · exact (h2 x hx hp).trans q2
    · simp only [List.mem_singleton] at hx
      exact hx ▸ q3
theorem Fold.prc {ss : List Int} {to : Int} (h : Fold T pl up ss to) (hto : 0 ≤ to) : Prc pl up to := by
  rcases h with ⟨h1, _⟩ | ⟨h1, _⟩
  · omega
  · exact h1
def updI (up : Int → Int) (b c : Int) : Int → Int := fun x => if x = b then c else up x
theorem upd_same {b : Int} : updI up b (up b) = up := by
  funext x
  unfold updI
  split
  · subst_vars; rfl
  · rfl
theorem upd_at {b c : Int} : updI up b c b = c := by simp [updI]
theorem upd_ne {b c x : Int} (h : x ≠ b) : updI up b c x = up x := by simp [updI, h]
section
variable {b c : Int}
theorem upd_prc (hc : 0 ≤ c) {x : Int} (h : Prc pl up x) : Prc pl (updI up b c) x := by
  refine ⟨h.1, h.2.imp id fun h => ?_⟩
  by_cases e : x = b
  · subst e; rw [upd_at]; exact hc
  · rw [upd_ne e]; exact h
theorem prc_upd {x : Int} (h : Prc pl (updI up b c) x) (e : x ≠ b) : Prc pl up x := by
  refine ⟨h.1, h.2.imp id fun h => ?_⟩
  rwa [upd_ne e] at h
theorem anc_upd {x d : Int} (h : Anc (updI up b c) x d) : Anc up x d ∨ (Anc up x b ∧ Anc (updI up b c) b d) := by
  induction h with
  | refl x => exact .inl (.refl x)
  | @step x d hne h ih =>
    by_cases e : x = b
    · subst e; exact .inr ⟨.refl _, .step hne h⟩
    · rw [upd_ne e] at ih
      rcases ih with ih | ⟨ih, h2⟩
      · exact .inl (.step hne ih)
      · exact .inr ⟨.step hne ih, h2⟩
theorem anc_below (hu : Up T pl up) {x d : Int} (h : Anc (updI up b c) x d) (hx : Prc pl up x) (hlt : pl x < pl b) : Anc up x d := by
  induction h with
  | refl x => exact .refl x
  | @step x d hne h ih =>
    have e : x ≠ b := by rintro rfl; omega
    rw [upd_ne e] at h ih
    obtain ⟨h1, h2⟩ := hu.low x hx hne
    exact .step hne (ih h1 (by omega))
theorem Rnd.step {k : Nat} {j : Int} {ss : List Int} (hp : Plc T pl) (hr : ∀ x, 0 ≤ pl x → 0 ≤ x) (h : Rnd T pl up k j) (hj : 0 ≤ j) (hb : pl b = j + 1) (hss : ∀ s, 0 ≤ pl s → (s ∈ ss ↔ b ∈ T s)) (hc : Fold T pl up ss c) :
    0 ≤ c ∧ Prc pl up c ∧ pl c < pl b ∧ (∀ s, Prc pl up s → b ∈ T s → Anc up s c) ∧ (∀ d, d ≠ b → Dm T d b → Dm T d c) ∧ Rnd T pl (updI up b c) k (j + 1) := by
  have hb0 : b ≠ 0 := by
    rintro rfl
    rw [hp.zero] at hb
    omega
  have hbr : 0 ≤ pl b := by omega
  obtain ⟨s0, p0, p1, ps⟩ := hp.src b hbr hb0
  have prc_le : ∀ x, 0 ≤ pl x → pl x ≤ j ∨ 1 ≤ k → Prc pl up x := by
    intro x h0 h1
    refine ⟨h0, ?_⟩
    by_cases e : x = 0
    · exact .inl e
    · exact .inr (h.some x h0 e h1)
  have hs0 : Prc pl up s0 := prc_le s0 p0 (.inl (by omega))
  rcases hc with ⟨_, h2⟩ | ⟨hcp, _, h2, h3⟩
  · exact absurd hs0 (h2 s0 ((hss s0 p0).2 ps))
  · have a2 : ∀ s, Prc pl up s → b ∈ T s → Anc up s c := fun s hs hbs => h2 s ((hss s hs.1).2 hbs) hs
    have a0 := (a2 s0 hs0 ps).prc h.ok hs0
    have hcb : pl c < pl b := by omega
    have hc0 : 0 ≤ c := hr c hcp.1
    have a3 : ∀ d, d ≠ b → Dm T d b → Dm T d c := fun d hne hd => h3 d (fun s hs hsp => hd.src hne ((hss s hsp.1).1 hs))
    have hcne : c ≠ b := by rintro rfl; omega
    -- what stands above the changed one
    have ab : ∀ d, Anc (updI up b c) b d → d = b ∨ Anc up c d := by
      intro d hd
      cases hd with
      | refl => exact .inl rfl
      | step _ hd =>
        rw [upd_at] at hd
        exact .inr (anc_below h.ok hd hcp hcb)
    have nb : ∀ d, Anc (updI up b c) b d → ¬ RA T pl d k b := by
      intro d hd
      rcases ab d hd with rfl | hd
      · exact RA.self
      · intro hra
        cases hra with
        | zero => exact hb0 rfl
        | @adv _ s _ hs hbs hne hl =>
          have hsr := (hp.reach s).2 hs.reach
          have hsp := prc_le s hsr (.inl (by omega))
          exact h.lo s d hsp (by omega) ((a2 s hsp hbs).trans hd) hs
        | @ret k' s _ hs hbs hne =>
          have hsr := (hp.reach s).2 hs.reach
          have hsp := prc_le s hsr (.inr (by omega))
          exact h.hi (by omega) s d hsp ((a2 s hsp hbs).trans hd) (by simpa using hs)
    refine ⟨hc0, hcp, hcb, a2, a3, ⟨⟨fun x hx hne => ?_, fun x d hx hne hd hdx => ?_⟩, fun x hx hne hj' => ?_, fun x hx => ?_, fun hk x hx => ?_, fun x d hx hj' hd hra => ?_, fun hk x d hx hd hra => ?_⟩⟩
    · by_cases e : x = b
      · subst e
        rw [upd_at]
        exact ⟨upd_prc hc0 hcp, hcb⟩
      · rw [upd_ne e]
        obtain ⟨h1, h2⟩ := h.ok.low x (prc_upd hx e) hne
        exact ⟨upd_prc hc0 h1, h2⟩
    · by_cases e : x = b
      · subst e
        rw [upd_at]
        exact a3 d hdx hd
      · rw [upd_ne e]
        exact h.ok.dom x d (prc_upd hx e) hne hd hdx
    · by_cases e : x = b
      · subst e
        rw [upd_at]
        exact hc0
      · rw [upd_ne e]
        refine h.some x hx hne (hj'.imp (fun h1 => ?_) id)
        by_cases e2 : pl x = j + 1
        · exact absurd (hp.inj x b hx (by omega)) e
        · omega
    · have e : x ≠ b := by
        rintro rfl
        omega
      rw [upd_ne e]
      exact h.off x hx
    · have e : x ≠ b := by
        rintro rfl
        omega
      rw [upd_ne e]
      exact h.non hk x (by omega)
    · by_cases e : x = b
      · subst e
        exact nb d hd hra
      · have hx' := prc_upd hx e
        have hxj : pl x ≤ j := by
          by_cases e2 : pl x = j + 1
          · exact absurd (hp.inj x b hx.1 (by omega)) e
          · omega
        rcases anc_upd hd with hd | ⟨hxb, hd⟩
        · exact h.lo x d hx' hxj hd hra
        · rcases RA.cut (b := b) hra with h1 | h1
          · exact h.lo x b hx' hxj hxb h1
          · exact nb d hd h1
    · by_cases e : x = b
      · subst e
        exact nb d hd (hra.le (by omega))
      · have hx' := prc_upd hx e
        rcases anc_upd hd with hd | ⟨hxb, hd⟩
        · exact h.hi hk x d hx' hd hra
        · rcases RA.cut (b := b) hra with h1 | h1
          · exact h.hi hk x b hx' hxb h1
          · exact nb d hd (h1.le (by omega))
end
theorem Rnd.start (hp : Plc T pl) : Rnd T pl (fun _ => -1) 0 0 := by
  have hz : ∀ x, Prc pl (fun _ => -1) x → x = 0 := by
    rintro x ⟨_, h | h⟩
    · exact h
    · have h : (0 : Int) ≤ -1 := h
      omega
  refine ⟨⟨fun x hx hne => absurd (hz x hx) hne, fun x d hx hne => absurd (hz x hx) hne⟩, fun x hx hne h => ?_, fun _ _ => rfl, fun _ _ _ => rfl, fun x d hx _ hd => ?_, fun h => absurd h (by decide)⟩
  · exfalso
    rcases h with h | h
    · exact hne (hp.inj x 0 hx (by rw [hp.zero]; omega))
    · omega
  · have := hz x hx
    subst this
    rw [hd.zero]
    exact RA.self
theorem Rnd.turn {k : Nat} {j : Int} (hp : Plc T pl) (h : Rnd T pl up k j) (hj : ∀ x, pl x ≤ j) : Rnd T pl up (k + 1) 0 := by
  refine ⟨h.ok, fun x hx hne _ => h.some x hx hne (.inl (hj x)), h.off, fun h => absurd h (by omega), fun x d hx h0 hd => ?_, fun _ x d hx hd => by simpa using h.lo x d hx (hj x) hd⟩
  have : x = 0 := hp.inj x 0 hx.1 (by have := hx.1; rw [hp.zero]; omega)
  subst this
  rw [hd.zero]
  exact RA.self
theorem Rnd.full {k n : Nat} {j : Int} {b c : Int} (hp : Plc T pl) (hR : ∀ x, Reach T x → 0 ≤ x ∧ x < (n : Int)) (h : Rnd T pl up k j) (hk : n + 2 ≤ k) (hb : 0 ≤ pl b) (hb0 : b ≠ 0) (hcp : Prc pl up c) (hcb : pl c < pl b)
    (a2 : ∀ s, Prc pl up s → b ∈ T s → Anc up s c) (a3 : ∀ d, d ≠ b → Dm T d b → Dm T d c) : up b = c := by
  have prc : ∀ x, 0 ≤ pl x → Prc pl up x := fun x h0 => ⟨h0, by
    by_cases e : x = 0
    · exact .inl e
    · exact .inr (h.some x h0 e (.inr (by omega)))⟩
  have dm : ∀ x d, Prc pl up x → Anc up x d → Dm T d x := fun x d hx hd => RA.all (pl := pl) hR (n := n) (fun hra => h.hi (by omega) x d hx hd (hra.le (by omega)))
  have hbp := prc b hb
  obtain ⟨h1, h2⟩ := h.ok.low b hbp hb0
  have hub : up b ≠ b := by
    intro e
    rw [e] at h2
    omega
  have e1 : Anc up c (up b) := h.ok.anc hcp (a3 _ hub (dm b _ hbp (.step hb0 (.refl _))))
  have hcne : c ≠ b := by rintro rfl; omega
  have dcb : Dm T c b := by
    rintro ⟨hc0, hr⟩
    cases hr with
    | zero => exact hb0 rfl
    | @step s _ hs hbs =>
      have hbs' := (mem_tgb.1 hbs).1
      have hsr : Reach T s := by
        have key : ∀ x, Reach (tgb T c) x → Reach T x := by
          intro x hx
          induction hx with
          | zero => exact .zero
          | step _ ht ih => exact .step ih (mem_tgb.1 ht).1
        exact key s hs
      have hsp := prc s ((hp.reach s).2 hsr)
      exact dm s c hsp (a2 s hsp hbs') ⟨hc0, hs⟩
  have e2 : Anc up (up b) c := h.ok.anc h1 (h.ok.dom b c hbp hb0 dcb hcne)
  have q1 := (e1.prc h.ok hcp).2.1
  have q2 := (e2.prc h.ok h1).2.1
  exact hp.inj _ _ h1.1 (by omega)
def Stl (T : Int → List Int) (pl up : Int → Int) (j : Int) : Prop := ∀ b s, 1 ≤ pl b → pl b ≤ j → 0 ≤ pl s → b ∈ T s → Anc up s (up b)
theorem Stl.start : Stl T pl up 0 := fun b s h h' => by omega
theorem Stl.next {j b : Int} (hp : Plc T pl) (h : Stl T pl up j) (hb : pl b = j + 1) (ha : ∀ s, 0 ≤ pl s → b ∈ T s → Anc up s (up b)) : Stl T pl up (j + 1) := by
  intro x s h1 h2 hs hx
  by_cases e : pl x = j + 1
  · have : x = b := hp.inj x b (by omega) (by omega)
    exact this ▸ ha s hs (this ▸ hx)
  · exact h x s h1 (by omega) hs hx
theorem Stl.dm {j : Int} (hp : Plc T pl) (h : Stl T pl up j) (hj : ∀ x, pl x ≤ j) {x d : Int} (ha : Anc up x d) : Dm T d x := by
  rintro ⟨hd, hr⟩
  have toR : ∀ x, Reach (tgb T d) x → Reach T x := by
    intro x hx
    induction hx with
    | zero => exact .zero
    | step _ ht ih => exact .step ih (mem_tgb.1 ht).1
  induction hr with
  | zero => exact hd ha.zero
  | @step y t hy ht ih =>
    obtain ⟨ht', hne⟩ := mem_tgb.1 ht
    cases ha with
    | refl => exact hne rfl
    | step h0 ha =>
      have hyr := (hp.reach y).2 (toR y hy)
      have htr := (hp.reach t).2 (.step (toR y hy) ht')
      have : 1 ≤ pl t := by
        by_cases e : pl t = 0
        · exact absurd (hp.inj t 0 htr (by rw [hp.zero]; exact e)) h0
        · omega
      exact ih ((h t y this (hj t) hyr ht').trans ha)
theorem Anc.total {x y z : Int} (h : Anc up x y) (h' : Anc up x z) : Anc up y z ∨ Anc up z y := by
  induction h with
  | refl => exact .inl h'
  | @step x d hne h ih =>
    cases h' with
    | refl => exact .inr (.step hne h)
    | step _ h' => exact ih h'
end
end Go.Mor
namespace Go.Mor
open Go.RowKit
def IntsOf (n : Nat) (l : List Int) (f : Int → Int) : Prop := l.length = n ∧ ∀ i : Nat, i < n → l.getD i 0 = f (i : Int)
theorem IntsOf.ext {n : Nat} {l m : List Int} {f : Int → Int} (h : IntsOf n l f) (h' : IntsOf n m f) : l = m := by
  apply List.ext_getElem?
  intro i
  by_cases hi : i < n
  · have h1 := h.2 i hi
    have h2 := h'.2 i hi
    have e1 : i < l.length := by rw [h.1]; exact hi
    have e2 : i < m.length := by rw [h'.1]; exact hi
    simp only [List.getD, List.getElem?_eq_getElem e1, List.getElem?_eq_getElem e2, Option.getD_some] at h1 h2 ⊢
    rw [h1, h2]
  · rw [List.getElem?_eq_none (by rw [h.1]; omega), List.getElem?_eq_none (by rw [h'.1]; omega)]
theorem IntsOf.set {n : Nat} {l : List Int} {f g : Int → Int} (h : IntsOf n l f) {i : Nat} {v : Int} (_hi : i < n) (hg : g (i : Int) = v) (hne : ∀ j : Nat, j < n → j ≠ i → g (j : Int) = f (j : Int)) : IntsOf n (l.set i v) g := by
  refine ⟨by simp [h.1], fun j hj => ?_⟩
  by_cases e : i = j
  · subst e
    have : i < l.length := by rw [h.1]; exact hj
    simp [List.getD, this, hg]
  · rw [hne j hj (fun h => e h.symm), ← h.2 j hj]
    simp [List.getD, List.getElem?_set_ne e]
theorem IntsOf.get {n : Nat} {l : List Int} {f : Int → Int} (h : IntsOf n l f) {i : Nat} (hi : i < n) : l[i]? = some (f (i : Int)) := by
  have h1 := h.2 i hi
  have e1 : i < l.length := by rw [h.1]; exact hi
  simp only [List.getD, List.getElem?_eq_getElem e1, Option.getD_some] at h1
  rw [List.getElem?_eq_getElem e1, h1]
theorem IntsOf.congr {n : Nat} {l : List Int} {f g : Int → Int} (h : IntsOf n l f) (e : ∀ i : Nat, i < n → f (i : Int) = g (i : Int)) : IntsOf n l g := ⟨h.1, fun i hi => (h.2 i hi).trans (e i hi)⟩
def fillF (k : Nat) (x : Int) : Int := if x < (k : Int) then -1 else 0
theorem fill_start (n : Nat) : IntsOf n (List.replicate n 0) (fillF 0) := ⟨by simp, fun i hi => by
  have : ¬ ((i : Int) < ((0 : Nat) : Int)) := by omega
  rw [fillF, if_neg this]
  simp [List.getD, hi]⟩
theorem fill_next {n k : Nat} {l : List Int} (h : IntsOf n l (fillF k)) (hk : k < n) : IntsOf n (l.set k (-1)) (fillF (k + 1)) := by
  refine h.set hk ?_ fun j _ hne => ?_
  · rw [fillF, if_pos (by omega)]
  · unfold fillF
    by_cases e : (j : Int) < (k : Int)
    · rw [if_pos e, if_pos (by omega)]
    · rw [if_neg e, if_neg (by omega)]
theorem fill_end {n k : Nat} {l : List Int} (h : IntsOf n l (fillF k)) (hk : n ≤ k) : IntsOf n l (fun _ => -1) := h.congr (fun i hi => by rw [fillF, if_pos (by omega)])
def plc (l : List Int) (x : Int) : Int := fidx (fun y => y == x) l
theorem plc_at {l : List Int} (hn : l.Nodup) {i : Nat} {x : Int} (h : l[i]? = some x) : plc l x = (i : Int) := by
  obtain ⟨hlt, he⟩ := List.getElem?_eq_some_iff.1 h
  refine fidx_hit (j := i) ?_ (by simp [List.getD, hlt, he]) hlt
  rw [List.any_eq_false]
  intro y hy
  obtain ⟨j, hj, he2⟩ := List.mem_take_iff_getElem.1 hy
  simp only [beq_iff_eq]
  intro e
  exact List.pairwise_iff_getElem.1 hn j i (by omega) hlt (by omega) (by rw [he2, he, e])
theorem plc_no {l : List Int} {x : Int} (h : x ∉ l) : plc l x = -1 := by
  refine fidx_miss (j := l.length) ?_ (Nat.le_refl _)
  rw [List.any_eq_false]
  intro y hy
  simp only [beq_iff_eq]
  rintro rfl
  exact h (List.mem_of_mem_take hy)
theorem plc_mem {l : List Int} (hn : l.Nodup) {x : Int} : 0 ≤ plc l x ↔ x ∈ l := by
  constructor
  · intro h
    by_cases e : x ∈ l
    · exact e
    · rw [plc_no e] at h; omega
  · intro h
    obtain ⟨i, hi⟩ := List.mem_iff_getElem?.1 h
    rw [plc_at hn hi]
    omega
theorem plc_get {l : List Int} (hn : l.Nodup) {x : Int} {i : Nat} (h : plc l x = (i : Int)) : l[i]? = some x := by
  have hm := (plc_mem hn (x := x)).1 (by omega)
  obtain ⟨j, hj⟩ := List.mem_iff_getElem?.1 hm
  have := plc_at hn hj
  rw [this] at h
  have : j = i := by omega
  exact this ▸ hj
theorem plc_lt {l : List Int} {x : Int} : plc l x < l.length := (fidx_lt _ l).2
theorem plc_take {l : List Int} (hn : l.Nodup) {k : Nat} {b : Int} (hk : l[k]? = some b) (x : Int) : plc (l.take (k + 1)) x = if x = b then (k : Int) else plc (l.take k) x := by
  obtain ⟨hlt, he⟩ := List.getElem?_eq_some_iff.1 hk
  have hn1 : (l.take (k + 1)).Nodup := hn.sublist (List.take_sublist _ _)
  have hn0 : (l.take k).Nodup := hn.sublist (List.take_sublist _ _)
  by_cases e : x = b
  · subst e
    rw [if_pos rfl]
    exact plc_at hn1 (by rw [List.getElem?_take_of_lt (by omega)]; exact hk)
  · rw [if_neg e]
    by_cases hm : x ∈ l.take k
    · obtain ⟨j, hj⟩ := List.mem_iff_getElem?.1 hm
      rw [plc_at hn0 hj]
      have hjk : j < k := by
        have := (List.getElem?_eq_some_iff.1 hj).1
        simp at this; omega
      rw [List.getElem?_take_of_lt hjk] at hj
      exact plc_at hn1 (by rw [List.getElem?_take_of_lt (by omega)]; exact hj)
    · rw [plc_no hm, plc_no]
      rw [List.take_succ_eq_append_getElem hlt, he]
      simp only [List.mem_append, List.mem_singleton, not_or]
      exact ⟨hm, e⟩
structure OrdOk (T : Int → List Int) (l : List Int) : Prop where
  head : l[0]? = some 0
  nodup : l.Nodup
  mem : ∀ x, x ∈ l ↔ Reach T x
  src : ∀ x, x ∈ l → x ≠ 0 → ∃ s, plc l s < plc l x ∧ 0 ≤ plc l s ∧ x ∈ T s
theorem order_ok {bs : List SB} (h : 0 < bs.length) : OrdOk (tg bs) (orderL bs) := by
  obtain ⟨s, hk, he⟩ := left_kids bs
  have hz := kids_zero hk
  obtain ⟨nw, h1, h2, h3, h4, h5⟩ := kids_new hk
  simp only [List.nil_append] at h1
  have hl : orderL bs = 0 :: nw.reverse := by
    unfold orderL
    rw [if_neg (by omega), ← he, h1]
    simp
  have h0 : (0 : Int) ∉ nw := by
    intro hm
    have := h4 0 hm
    simp [addS] at this
  have hnd : (orderL bs).Nodup := by
    rw [hl, List.nodup_cons]
    exact ⟨by simpa using h0, List.pairwise_reverse.2 (h3.imp (fun h => fun e => h e.symm))⟩
  refine ⟨by rw [hl]; rfl, hnd, fun x => ?_, fun x hx hne => ?_⟩
  · rw [← hz x, h2 x, hl]
    simp [addS]
  · have hx' : x ∈ nw := by
      rw [hl] at hx
      simpa [hne] using hx
    obtain ⟨l1, l2, e⟩ := List.append_of_mem hx'
    have hl2 : orderL bs = (0 :: l2.reverse) ++ x :: l1.reverse := by
      rw [hl, e]
      simp
    have px : plc (orderL bs) x = ((0 :: l2.reverse).length : Int) := by
      refine plc_at hnd ?_
      rw [hl2, List.getElem?_append_right (Nat.le_refl _)]
      simp
    have py : ∀ y, y ∈ (0 : Int) :: l2.reverse → plc (orderL bs) y < plc (orderL bs) x ∧ 0 ≤ plc (orderL bs) y := by
      intro y hy
      obtain ⟨j, hj, hje⟩ := List.mem_iff_getElem.1 hy
      have : plc (orderL bs) y = (j : Int) := by
        refine plc_at hnd ?_
        rw [hl2, List.getElem?_append_left hj, List.getElem?_eq_getElem hj, hje]
      omega
    rcases h5 l1 x l2 e with h | ⟨y, hy, h⟩
    · exact ⟨0, (py 0 (by simp)).1, (py 0 (by simp)).2, h⟩
    · have := py y (by simp [hy])
      exact ⟨y, this.1, this.2, h⟩
theorem OrdOk.plc {T : Int → List Int} {l : List Int} (h : OrdOk T l) : Plc T (plc l) where
  reach := fun x => (plc_mem h.nodup).trans (h.mem x)
  zero := plc_at h.nodup h.head
  inj := fun x y hx e => by
    obtain ⟨i, hi⟩ := List.mem_iff_getElem?.1 ((plc_mem h.nodup).1 hx)
    have e1 := plc_at h.nodup hi
    have e2 := plc_get h.nodup (x := y) (i := i) (by omega)
    rw [hi] at e2
    injection e2
  src := fun x hx hne => by
    obtain ⟨s, h1, h2, h3⟩ := h.src x ((plc_mem h.nodup).1 hx) hne
    exact ⟨s, h2, h1, h3⟩
def plB (bs : List SB) (x : Int) : Int := plc (orderL bs) x
theorem plB_plc {bs : List SB} (h : 0 < bs.length) : Plc (tg bs) (plB bs) := (order_ok h).plc
theorem reach_rng {bs : List SB} (h : 0 < bs.length) {x : Int} (hx : Reach (tg bs) x) : 0 ≤ x ∧ x < (bs.length : Int) := reach_in h (fun _ _ h => tg_mem h) hx
theorem plB_rng {bs : List SB} (h : 0 < bs.length) {x : Int} (hx : 0 ≤ plB bs x) : 0 ≤ x ∧ x < (bs.length : Int) := reach_rng h (((plB_plc h).reach x).1 hx)
def atL (bs : List SB) : List Int := (List.range bs.length).map (fun i : Nat => plB bs (i : Int))
theorem atL_of (bs : List SB) : IntsOf bs.length (atL bs) (plB bs) := ⟨by simp [atL], fun i hi => by simp [atL, List.getD, hi]⟩
theorem mem_srcs {bs : List SB} {b s : Int} : s ∈ srcs bs b ↔ (0 ≤ s ∧ s < bs.length) ∧ b ∈ tg bs s := by
  simp only [srcs, srcsTo, List.mem_map, List.mem_filter, List.mem_range, List.contains_eq_mem, decide_eq_true_eq]
  constructor
  · rintro ⟨i, ⟨h1, h2⟩, rfl⟩
    exact ⟨by omega, h2⟩
  · rintro ⟨h1, h2⟩
    obtain ⟨k, rfl⟩ := Int.eq_ofNat_of_zero_le h1.1
    exact ⟨k, ⟨by omega, h2⟩, rfl⟩
theorem walk_reach {bs : List SB} {x : Int} : walkB bs (-1) x = true ↔ Reach (tg bs) x := by
  rw [walkB_reach]
  have e : ∀ y, tgb (tg bs) (-1) y = tg bs y := by
    intro y
    unfold tgb
    rw [List.filter_eq_self]
    intro t ht
    have := tg_mem ht
    simp only [Bool.not_eq_true', beq_eq_false_iff_ne, ne_eq]
    omega
  have e2 : tgb (tg bs) (-1) = tg bs := funext e
  rw [e2]
  exact ⟨fun h => h.2, fun h => ⟨by decide, h⟩⟩
theorem walk_dm {bs : List SB} {d x : Int} : walkB bs d x = false ↔ Dm (tg bs) d x := by
  unfold Dm
  rw [← walkB_reach]
  simp
theorem at2_over {bs : List SB} {d b : Nat} (hd : d < bs.length) (hb : b < bs.length) : at2 (overL bs) d b = true ↔ Reach (tg bs) (b : Int) ∧ Dm (tg bs) (d : Int) (b : Int) := by
  have : at2 (overL bs) d b = overB bs (d : Int) (b : Int) := by simp [at2, overL, List.getD, hd, hb]
  rw [this]
  simp only [overB, Bool.and_eq_true, Bool.not_eq_true']
  rw [walk_reach, walk_reach, walk_dm]
  exact ⟨fun h => h.2, fun h => ⟨Dm.reach h.1 h.2, h⟩⟩
theorem best_none {l : List (List Bool)} {b k : Nat} (h : ∀ d : Nat, d < k → d ≠ b → at2 l d b = false) : bestTo l b k = -1 := by
  induction k with
  | zero => rfl
  | succ k ih =>
    unfold bestTo
    rw [ih (fun d hd => h d (by omega))]
    refine if_neg fun hh => ?_
    rw [h k (by omega) hh.1] at hh
    exact Bool.noConfusion hh.2.1
theorem best_inv {bs : List SB} {up : Int → Int} (h0 : 0 < bs.length) (hu : Up (tg bs) (plB bs) up) (hp : ∀ x, 0 ≤ plB bs x → Prc (plB bs) up x) (hd : ∀ x d, 0 ≤ plB bs x → Anc up x d → Dm (tg bs) d x) {b : Nat} (hb : b < bs.length) (hr : 0 ≤ plB bs (b : Int)) :
    ∀ k, k ≤ bs.length → (bestTo (overL bs) b k = -1 ∧ ∀ d : Nat, d < k → d ≠ b → ¬ Dm (tg bs) (d : Int) (b : Int)) ∨
      (∃ d : Nat, bestTo (overL bs) b k = (d : Int) ∧ d < k ∧ d ≠ b ∧ Dm (tg bs) (d : Int) (b : Int) ∧ ∀ e : Nat, e < k → e ≠ b → Dm (tg bs) (e : Int) (b : Int) → Dm (tg bs) (e : Int) (d : Int)) := by
  have hP := plB_plc h0
  have hbr := (hP.reach _).1 hr
  have rd : ∀ d x, 0 ≤ plB bs x → Dm (tg bs) d x → 0 ≤ plB bs d := fun d x hx h => (hP.reach d).2 (Dm.reach ((hP.reach x).1 hx) h)
  intro k
  induction k with
  | zero => exact fun _ => .inl ⟨rfl, fun d h => by omega⟩
  | succ k ih =>
    intro hk
    have hat : at2 (overL bs) k b = true ↔ Dm (tg bs) (k : Int) (b : Int) := by
      rw [at2_over (by omega) hb]
      exact ⟨fun h => h.2, fun h => ⟨hbr, h⟩⟩
    rcases ih (by omega) with ⟨h1, h2⟩ | ⟨d, h1, h2, h3, h4, h5⟩
    · by_cases c : k ≠ b ∧ at2 (overL bs) k b = true
      · right
        refine ⟨k, ?_, by omega, c.1, hat.1 c.2, fun e he hne hd' => ?_⟩
        · unfold bestTo
          exact if_pos ⟨c.1, c.2, .inl (by omega)⟩
        · by_cases e2 : e = k
          · subst e2; exact Dm.self _
          · exact absurd hd' (h2 e (by omega) hne)
      · left
        refine ⟨?_, fun e he hne hd' => ?_⟩
        · unfold bestTo
          rw [if_neg (fun hh => c ⟨hh.1, hh.2.1⟩)]
          exact h1
        · by_cases e2 : e = k
          · subst e2; exact c ⟨hne, hat.2 hd'⟩
          · exact h2 e (by omega) hne hd'
    · have had : at2 (overL bs) d k = true ↔ Reach (tg bs) (k : Int) ∧ Dm (tg bs) (d : Int) (k : Int) := at2_over (by omega) (by omega)
      by_cases c : k ≠ b ∧ at2 (overL bs) k b = true
      · have hkb := hat.1 c.2
        have hkr := rd _ _ hr hkb
        by_cases c2 : at2 (overL bs) d k = true
        · right
          refine ⟨k, ?_, by omega, c.1, hkb, fun e he hne hd' => ?_⟩
          · unfold bestTo
            exact if_pos ⟨c.1, c.2, .inr (by rw [h1]; exact c2)⟩
          · by_cases e2 : e = k
            · subst e2; exact Dm.self _
            · have a1 := hu.anc (hp _ hkr) (had.1 c2).2
              have a2 := hu.anc (hp _ (rd _ _ hkr (had.1 c2).2)) (h5 e (by omega) hne hd')
              exact hd _ _ hkr (a1.trans a2)
        · right
          refine ⟨d, ?_, by omega, h3, h4, fun e he hne hd' => ?_⟩
          · unfold bestTo
            rw [if_neg]
            · exact h1
            · rintro ⟨_, _, hh⟩
              rw [h1] at hh
              rcases hh with hh | hh
              · omega
              · exact c2 hh
          · by_cases e2 : e = k
            · subst e2
              have hdr := rd _ _ hr h4
              rcases Anc.total (hu.anc (hp _ hr) hkb) (hu.anc (hp _ hr) h4) with t | t
              · exact absurd (had.2 ⟨(hP.reach _).1 hkr, hd _ _ hkr t⟩) c2
              · exact hd _ _ hdr t
            · exact h5 e (by omega) hne hd'
      · right
        refine ⟨d, ?_, by omega, h3, h4, fun e he hne hd' => ?_⟩
        · unfold bestTo
          rw [if_neg (fun hh => c ⟨hh.1, hh.2.1⟩)]
          exact h1
        · by_cases e2 : e = k
          · subst e2; exact absurd ⟨hne, hat.2 hd'⟩ c
          · exact h5 e (by omega) hne hd'
theorem above_end {bs : List SB} {up : Int → Int} {ab : List Int} {k : Nat} {i j : Int} (h0 : 0 < bs.length) (hr : Rnd (tg bs) (plB bs) up k i) (hk : 1 ≤ k) (hs : Stl (tg bs) (plB bs) up j) (hj : ∀ x, plB bs x ≤ j) (hab : IntsOf bs.length ab up) : ab = raboveL bs := by
  have hP := plB_plc h0
  have hp : ∀ x, 0 ≤ plB bs x → Prc (plB bs) up x := fun x h => ⟨h, by
    by_cases e : x = 0
    · exact .inl e
    · exact .inr (hr.some x h e (.inr hk))⟩
  have hd : ∀ x d, 0 ≤ plB bs x → Anc up x d → Dm (tg bs) d x := fun x d _ h => hs.dm hP hj h
  refine hab.ext ⟨by simp [raboveL, aboveOfL, overL_len], fun b hb => ?_⟩
  have e1 : (raboveL bs).getD b 0 = bestTo (overL bs) b bs.length := by
    simp [raboveL, aboveOfL, overL_len, List.getD, hb]
  rw [e1]
  have at_no : ∀ d : Nat, d < bs.length → ¬ Dm (tg bs) (d : Int) (b : Int) ∨ ¬ Reach (tg bs) (b : Int) → at2 (overL bs) d b = false := by
    intro d hdl hh
    rw [← Bool.not_eq_true]
    intro ht
    have := (at2_over hdl hb).1 ht
    rcases hh with hh | hh
    · exact hh this.2
    · exact hh this.1
  by_cases hbr : 0 ≤ plB bs (b : Int)
  · by_cases hb0 : b = 0
    · subst hb0
      rw [show up ((0 : Nat) : Int) = -1 from hr.off _ (.inr rfl)]
      refine best_none fun d hdl hne => at_no d hdl (.inl fun h => ?_)
      have := h.at_zero
      omega
    · have hb0' : (b : Int) ≠ 0 := by omega
      obtain ⟨l1, l2⟩ := hr.ok.low _ (hp _ hbr) hb0'
      have lne : up (b : Int) ≠ (b : Int) := by
        intro e
        rw [e] at l2
        omega
      have lr := plB_rng h0 l1.1
      obtain ⟨u, hu⟩ := Int.eq_ofNat_of_zero_le lr.1
      have du : Dm (tg bs) (up (b : Int)) (b : Int) := hd _ _ hbr (.step hb0' (.refl _))
      rcases best_inv h0 hr.ok hp hd hb hbr bs.length (Nat.le_refl _) with ⟨_, h2⟩ | ⟨d, h1, h2, h3, h4, h5⟩
      · exact absurd (hu ▸ du) (h2 u (by omega) (fun e => lne (by rw [hu, e])))
      · rw [h1]
        have hne : (d : Int) ≠ (b : Int) := by omega
        have d1 : Dm (tg bs) (up (b : Int)) (d : Int) := by
          rw [hu]
          exact h5 u (by omega) (fun e => lne (by rw [hu, e])) (hu ▸ du)
        have hdr : 0 ≤ plB bs (d : Int) := (hP.reach _).2 (Dm.reach ((hP.reach _).1 hbr) h4)
        have d2 : Dm (tg bs) (d : Int) (up (b : Int)) := hr.ok.dom _ _ (hp _ hbr) hb0' h4 hne
        have q1 := Dm.le hP hdr d1
        have q2 := Dm.le hP l1.1 d2
        exact hP.inj _ _ hdr (by omega)
  · rw [hr.off _ (.inl (by omega))]
    exact best_none fun d hdl _ => at_no d hdl (.inr fun h => hbr ((hP.reach _).2 h))
end Go.Mor
namespace Go.Mor
open Go.RowKit
theorem IntsOf.at_ {n : Nat} {l : List Int} {f : Int → Int} (h : IntsOf n l f) {x : Int} (h0 : 0 ≤ x) (h1 : x < n) : (ints l)[x.toNat]? = some (.int .i64 (f x)) := by
  obtain ⟨i, rfl⟩ := Int.eq_ofNat_of_zero_le h0
  have := h.get (i := i) (by omega)
  simp [ints, this]
structure Mok (T : Int → List Int) (pl up : Int → Int) (n : Nat) (atl ab : List Int) : Prop where
  plc : Plc T pl
  ok : Up T pl up
  rng : ∀ x, 0 ≤ pl x → 0 ≤ x ∧ x < (n : Int)
  hat : IntsOf n atl pl
  hab : IntsOf n ab up
section
variable {T : Int → List Int} {pl up : Int → Int} {n : Nat} {atl ab : List Int}
theorem Mok.at0 (h : Mok T pl up n atl ab) {x : Int} (hx : Prc pl up x) : (ints atl)[x.toNat]? = some (.int .i64 (pl x)) := h.hat.at_ (h.rng x hx.1).1 (h.rng x hx.1).2
theorem Mok.up0 (h : Mok T pl up n atl ab) {x : Int} (hx : Prc pl up x) : (ints ab)[x.toNat]? = some (.int .i64 (up x)) := h.hab.at_ (h.rng x hx.1).1 (h.rng x hx.1).2
theorem Mok.ne0 (h : Mok T pl up n atl ab) {a b : Int} (hb : Prc pl up b) (hlt : pl a > pl b) : a ≠ 0 := by
  rintro rfl
  rw [h.plc.zero] at hlt
  have := hb.1
  omega
theorem meet_dec (h : Mok T pl up n atl ab) {a b a2 b2 : Int} (ha : Prc pl up a) (ha2 : Prc pl up a2) (hb2 : Prc pl up b2) (hne : a ≠ b) (h1 : a2 = a ∨ pl a2 < pl a) (h2 : b2 = b ∨ pl b2 < pl b) (g1 : ¬ pl a2 > pl b) (g2 : ¬ pl b2 > pl a2) :
    (pl a2 + pl b2).toNat < (pl a + pl b).toNat := by
  have p1 := ha2.1
  have p2 := hb2.1
  rcases h1 with rfl | h1
  · rcases h2 with rfl | h2
    · exact absurd (h.plc.inj _ _ ha.1 (by omega)) hne
    · omega
  · rcases h2 with rfl | h2 <;> omega
end
end Go.Mor
namespace Go.Mor
open Go.RowKit
theorem orderL_len (bs : List SB) : (orderL bs).length ≤ bs.length := by
  unfold orderL
  split
  · simp
  · rw [List.length_reverse]
    exact leftL_len (by omega)
theorem ord_get {bs : List SB} {k : Nat} (hk : k < (orderL bs).length) : ∃ bi : Nat, (orderL bs)[k]? = some (bi : Int) ∧ bi < bs.length ∧ plB bs (bi : Int) = (k : Int) := by
  have hl := orderL_len bs
  have ho := order_ok (bs := bs) (by omega)
  have hg : (orderL bs)[k]? = some (orderL bs)[k] := List.getElem?_eq_getElem hk
  have hr := reach_rng (by omega) ((ho.mem _).1 (List.mem_of_getElem? hg))
  obtain ⟨q, hq⟩ := Int.eq_ofNat_of_zero_le hr.1
  rw [hq] at hg
  exact ⟨q, hg, by omega, plc_at ho.nodup hg⟩
theorem ord_drop {bs : List SB} {j : Nat} (hk : j + 1 < (orderL bs).length) : ∃ bi : Nat, ((orderL bs).drop 1)[j]? = some (bi : Int) ∧ bi < bs.length ∧ plB bs (bi : Int) = (j : Int) + 1 := by
  obtain ⟨bi, h1, h2, h3⟩ := ord_get hk
  exact ⟨bi, by rw [List.getElem?_drop, Nat.add_comm]; exact h1, h2, by omega⟩
theorem rd_tail {w : World} {ad : Addr} {l : List Int} (h : (Res.rd (some ad) (ints l)).holds w) : (Res.rd (some (ad.add (1 * 1))) (ints (l.drop 1))).holds w := by
  have := rd_drop h 1
  simpa [ints] using this
theorem places_start (bs : List SB) {l : List Int} (h : IntsOf bs.length l (fun _ => -1)) : IntsOf bs.length l (plc ((orderL bs).take 0)) := h.congr (fun i _ => (plc_no (by simp)).symm)
theorem places_next {bs : List SB} {l : List Int} {k bi : Nat} (h : IntsOf bs.length l (plc ((orderL bs).take k))) (hk : (orderL bs)[k]? = some (bi : Int)) (hb : bi < bs.length) : IntsOf bs.length (l.set bi (k : Int)) (plc ((orderL bs).take (k + 1))) := by
  have hlt := (List.getElem?_eq_some_iff.1 hk).1
  have hl := orderL_len bs
  have ho := order_ok (bs := bs) (by omega)
  refine h.set hb ?_ fun j _ hne => ?_
  · rw [plc_take ho.nodup hk, if_pos rfl]
  · rw [plc_take ho.nodup hk, if_neg (by omega)]
theorem places_end {bs : List SB} {l : List Int} {k : Nat} (h : IntsOf bs.length l (plc ((orderL bs).take k))) (hk : (orderL bs).length ≤ k) : IntsOf bs.length l (plB bs) := by
  rw [List.take_of_length_le hk] at h
  exact h
theorem take_snoc {l : List Int} {q : Nat} {x : Int} (h : l[q]? = some x) : l.take (q + 1) = l.take q ++ [x] := by
  obtain ⟨hlt, he⟩ := List.getElem?_eq_some_iff.1 h
  rw [List.take_succ_eq_append_getElem hlt, he]
theorem srcs_at {bs : List SB} {b : Int} {q : Nat} (h : q < (srcs bs b).length) : ∃ si : Nat, (srcs bs b)[q]? = some (si : Int) ∧ si < bs.length := by
  have h1 := srcs_mem (List.getElem_mem h)
  obtain ⟨k, he⟩ := Int.eq_ofNat_of_zero_le h1.1
  exact ⟨k, by rw [List.getElem?_eq_getElem h, he], by omega⟩
theorem src_iff {bs : List SB} (h : 0 < bs.length) {b : Int} : ∀ s, 0 ≤ plB bs s → (s ∈ srcs bs b ↔ b ∈ tg bs s) := fun s hs => by
  rw [mem_srcs]
  exact ⟨fun h => h.2, fun hb => ⟨plB_rng h hs, hb⟩⟩
theorem plB_lt (bs : List SB) (x : Int) : plB bs x < (orderL bs).length := plc_lt
theorem ab_end {bs : List SB} {up : Int → Int} {ab : List Int} {k : Nat} {j : Int} (hr : 0 < bs.length → Rnd (tg bs) (plB bs) up k 0) (hk : 1 ≤ k) (hs : Stl (tg bs) (plB bs) up j) (hj : ∀ x, plB bs x ≤ j) (hab : IntsOf bs.length ab up) : ab = raboveL bs := by
  rcases Nat.eq_zero_or_pos bs.length with h0 | h0
  · have e1 : ab = [] := List.eq_nil_of_length_eq_zero (by rw [hab.1, h0])
    have e2 : raboveL bs = [] := List.eq_nil_of_length_eq_zero (by simp [raboveL, aboveOfL, overL_len, h0])
    rw [e1, e2]
  · exact above_end h0 (hr h0) hk hs hj hab
theorem lim_next {n k : Nat} {b : Bool} (hf : n + 2 ≤ k → b = false) (h : b = true) : k + 1 ≤ n + 2 := by
  by_cases h8 : n + 2 ≤ k
  · rw [hf h8] at h
    cases h
  · omega
theorem raboveL_len (bs : List SB) : (raboveL bs).length = bs.length := by simp [raboveL, aboveOfL, overL_len]
theorem atL_len (bs : List SB) : (atL bs).length = bs.length := by simp [atL]
theorem Rnd.keep {bs : List SB} {up : Int → Int} {k : Nat} {j b to : Int} (h : Rnd (tg bs) (plB bs) up k j) (hb : plB bs b = j + 1) (hto : 0 ≤ to) (he : up b = to) (ha : ∀ s, Prc (plB bs) up s → b ∈ tg bs s → Anc up s to) :
    ∀ s, 0 ≤ plB bs s → b ∈ tg bs s → Anc up s (up b) := by
  intro s hs hx
  rw [he]
  refine ha s ⟨hs, ?_⟩ hx
  by_cases e : s = 0
  · exact .inl e
  · refine .inr (h.some s hs e (.inr ?_))
    by_cases hk : k = 0
    · have := h.non hk b (by omega)
      omega
    · omega
end Go.Mor
namespace Go.Mor
open Go.RowKit
structure FinU (bs : List SB) (up : Int → Int) : Prop where
  of : IntsOf bs.length (raboveL bs) up
  ok : Up (tg bs) (plB bs) up
  prc : ∀ x, 0 ≤ plB bs x → Prc (plB bs) up x
  off : ∀ x, (plB bs x < 0 ∨ x = 0) → up x = -1
  dm : ∀ x d, Anc up x d → Dm (tg bs) d x
def FinUp (bs : List SB) : Prop := 0 < bs.length → ∃ up, FinU bs up
theorem fin_up {bs : List SB} {up : Int → Int} {ab : List Int} {k : Nat} {j : Int} (hr : 0 < bs.length → Rnd (tg bs) (plB bs) up k 0) (hk : 1 ≤ k) (hs : Stl (tg bs) (plB bs) up j) (hj : ∀ x, plB bs x ≤ j) (hab : IntsOf bs.length ab up) : FinUp bs := by
  intro h0
  have hr0 := hr h0
  refine ⟨up, ab_end hr hk hs hj hab ▸ hab, hr0.ok, fun x h => ⟨h, ?_⟩, hr0.off, fun x d h => hs.dm (plB_plc h0) hj h⟩
  by_cases e : x = 0
  · exact .inl e
  · exact .inr (hr0.some x h e (.inr hk))
section
variable {bs : List SB} {up : Int → Int}
end
end Go.Mor
namespace Go.Mor
open Go.RowKit
abbrev Recs := List (Int × Nat × Nat)
mutual
inductive Vis (K : Int → List Int) : Int → Nat → Nat → Recs → Prop
  | mk {b : Int} {n m : Nat} {r : Recs} : VisL K (K b) (n + 1) m r → Vis K b n (m + 1) (r ++ [(b, n + 1, m + 1)])
inductive VisL (K : Int → List Int) : List Int → Nat → Nat → Recs → Prop
  | nil {n : Nat} : VisL K [] n n []
  | snoc {l : List Int} {c : Int} {n m p : Nat} {r s : Recs} : VisL K l n m r → Vis K c m p s → VisL K (l ++ [c]) n p (r ++ s)
end
structure TreeU (K : Int → List Int) (pl up : Int → Int) : Prop where
  kid : ∀ b c, c ∈ K b → up c = b ∧ c ≠ 0 ∧ pl b < pl c
  nod : ∀ b, (K b).Nodup
section
variable {K : Int → List Int} {pl up : Int → Int}
theorem TreeU.anc (h : TreeU K pl up) {b c : Int} (hc : c ∈ K b) : Anc up c b := .step (h.kid b c hc).2.1 (by rw [(h.kid b c hc).1]; exact .refl _)
mutual
theorem Vis.facts (h : TreeU K pl up) {b : Int} {n m : Nat} {r : Recs} : Vis K b n m r → (∀ x i o, (x, i, o) ∈ r → Anc up x b ∧ n < i ∧ i < o ∧ o ≤ m) ∧ n < m
  | .mk (m := m) hl => by
    have ih := VisL.facts h hl
    constructor
    · intro x i o hx
      rcases List.mem_append.1 hx with hx | hx
      · obtain ⟨⟨c, hc, ha⟩, h1, h2, h3⟩ := ih.1 x i o hx
        exact ⟨ha.trans (h.anc hc), by omega, h2, by omega⟩
      · simp only [List.mem_singleton, Prod.mk.injEq] at hx
        obtain ⟨rfl, rfl, rfl⟩ := hx
        have := ih.2
        exact ⟨.refl _, by omega, by omega, by omega⟩
    · have := ih.2; omega
theorem VisL.facts (h : TreeU K pl up) {l : List Int} {n m : Nat} {r : Recs} : VisL K l n m r → (∀ x i o, (x, i, o) ∈ r → (∃ c, c ∈ l ∧ Anc up x c) ∧ n < i ∧ i < o ∧ o ≤ m) ∧ n ≤ m
  | .nil => ⟨fun x i o hx => by simp at hx, Nat.le_refl _⟩
  | .snoc (l := l) (c := c) (m := m0) hl hv => by
    have i1 := VisL.facts h hl
    have i2 := Vis.facts h hv
    refine ⟨fun x i o hx => ?_, by have := i1.2; have := i2.2; omega⟩
    rcases List.mem_append.1 hx with hx | hx
    · obtain ⟨⟨c', hc, ha⟩, h1, h2, h3⟩ := i1.1 x i o hx
      have := i2.2
      exact ⟨⟨c', List.mem_append_left _ hc, ha⟩, h1, h2, by omega⟩
    · obtain ⟨ha, h1, h2, h3⟩ := i2.1 x i o hx
      have := i1.2
      exact ⟨⟨c, by simp, ha⟩, by omega, h2, h3⟩
end
theorem Anc.chain {x a b : Int} (ha : Anc up x a) (hb : Anc up x b) : Anc up a b ∨ Anc up b a := by
  induction ha with
  | refl => exact .inl hb
  | @step x d hne h ih =>
    cases hb with
    | refl => exact .inr (.step hne h)
    | step _ hb => exact ih hb
theorem TreeU.sub (h : TreeU K pl up) {b c c' y : Int} (hc : c ∈ K b) (hc' : c' ∈ K b) (hp : ∀ x d, Anc up x d → 0 ≤ pl x → pl d ≤ pl x) (hb : 0 ≤ pl b) (h1 : Anc up y c) (h2 : Anc up y c') : c = c' := by
  have key : ∀ c c', c ∈ K b → c' ∈ K b → Anc up c c' → c = c' := by
    intro c c' hc hc' ha
    cases ha with
    | refl => rfl
    | step hne ha =>
      rw [(h.kid b c hc).1] at ha
      have := hp _ _ ha hb
      have := (h.kid b c' hc').2.2
      omega
  rcases Anc.chain h1 h2 with h3 | h3
  · exact key c c' hc hc' h3
  · exact (key c' c hc' hc h3).symm
structure TreeP (K : Int → List Int) (pl up : Int → Int) : Prop extends TreeU K pl up where
  le : ∀ x d, Anc up x d → 0 ≤ pl x → pl d ≤ pl x
  pos : ∀ b, 0 ≤ pl b → ∀ c, c ∈ K b → 0 ≤ pl c
  neg : ∀ x d, pl x < 0 → 0 ≤ pl d → ¬ Anc up x d
mutual
theorem Vis.hold (h : TreeP K pl up) {b : Int} (hb : 0 ≤ pl b) {n m : Nat} {r : Recs} : Vis K b n m r → ∀ x i o y i' o', (x, i, o) ∈ r → (y, i', o') ∈ r → ((i ≤ i' ∧ o' ≤ o) ↔ Anc up y x)
  | .mk (m := m) (r := r) hl => by
    intro x i o y i' o' hx hy
    have f := VisL.facts h.toTreeU hl
    rcases List.mem_append.1 hx with x1 | x1 <;> rcases List.mem_append.1 hy with y1 | y1
    · exact VisL.hold h hb (fun c hc => hc) (h.nod b) hl x i o y i' o' x1 y1
    · simp only [List.mem_singleton, Prod.mk.injEq] at y1
      obtain ⟨e1, e2, e3⟩ := y1
      obtain ⟨⟨c, hc, ha⟩, h1, h2, h3⟩ := f.1 x i o x1
      constructor
      · intro hh; omega
      · intro hh
        rw [e1] at hh
        have h4 := (h.kid _ _ hc).2.2
        have h5 := h.le _ _ hh hb
        have h6 := h.pos b hb c hc
        have h7 := h.le _ _ (hh.trans ha) hb
        omega
    · simp only [List.mem_singleton, Prod.mk.injEq] at x1
      obtain ⟨e1, e2, e3⟩ := x1
      obtain ⟨⟨c, hc, ha⟩, h1, h2, h3⟩ := f.1 y i' o' y1
      rw [e1]
      exact ⟨fun _ => ha.trans (h.anc hc), fun _ => ⟨by omega, by omega⟩⟩
    · simp only [List.mem_singleton, Prod.mk.injEq] at x1 y1
      obtain ⟨e1, e2, e3⟩ := x1
      obtain ⟨e4, e5, e6⟩ := y1
      rw [e1, e4]
      exact ⟨fun _ => .refl _, fun _ => ⟨by omega, by omega⟩⟩
theorem VisL.hold (h : TreeP K pl up) {b : Int} (hb : 0 ≤ pl b) {l : List Int} (hsub : ∀ c, c ∈ l → c ∈ K b) (hnd : l.Nodup) {n m : Nat} {r : Recs} : VisL K l n m r → (∀ x i o y i' o', (x, i, o) ∈ r → (y, i', o') ∈ r → ((i ≤ i' ∧ o' ≤ o) ↔ Anc up y x))
  | .nil => fun x i o y i' o' hx _ => by simp at hx
  | .snoc (l := l) (c := c) hl hv => by
    have f1 := VisL.facts h.toTreeU hl
    have f2 := Vis.facts h.toTreeU hv
    have hcK := hsub c (by simp)
    have hcp := h.pos b hb c hcK
    rw [List.nodup_append] at hnd
    have apart : ∀ y, Anc up y c → ∀ c', c' ∈ l → ¬ Anc up y c' := by
      intro y h1 c' hc' h2
      have := h.sub hcK (hsub c' (List.mem_append_left _ hc')) h.le hb h1 h2
      exact hnd.2.2 c' hc' c (by simp) this.symm
    intro x i o y i' o' hx hy
    rcases List.mem_append.1 hx with x1 | x1 <;> rcases List.mem_append.1 hy with y1 | y1
    · exact VisL.hold h hb (fun c hc => hsub c (List.mem_append_left _ hc)) hnd.1 hl x i o y i' o' x1 y1
    · obtain ⟨⟨c', hc', ha⟩, h1, h2, h3⟩ := f1.1 x i o x1
      obtain ⟨hb', h4, h5, h6⟩ := f2.1 y i' o' y1
      constructor
      · intro hh; omega
      · intro hh
        exact absurd (hh.trans ha) (apart y hb' c' hc')
    · obtain ⟨⟨c', hc', ha⟩, h1, h2, h3⟩ := f1.1 y i' o' y1
      obtain ⟨hb', h4, h5, h6⟩ := f2.1 x i o x1
      constructor
      · intro hh; omega
      · intro hh
        exact absurd ha (apart y (hh.trans hb') c' hc')
    · exact Vis.hold h hcp hv x i o y i' o' x1 y1
end
end
end Go.Mor
namespace Go.Mor
open Go.RowKit
def cntT (bs : List SB) (k : Nat) : Nat := ((List.range k).filter (fun i : Nat => walkB bs (-1) (i : Int))).length
theorem nodup_cast {l : List Nat} (h : l.Nodup) : (l.map (fun i : Nat => (i : Int))).Nodup := by
  rw [List.Nodup, List.pairwise_map]
  exact h.imp (fun h e => h (by omega))
theorem cnt_end (bs : List SB) : cntT bs bs.length = (orderL bs).length := by
  by_cases h0 : bs.length = 0
  · unfold cntT orderL
    rw [if_pos h0, h0]; rfl
  · have ho := order_ok (bs := bs) (by omega)
    have hn : (((List.range bs.length).filter (fun i : Nat => walkB bs (-1) (i : Int))).map (fun i : Nat => (i : Int))).Nodup := nodup_cast (List.nodup_range.sublist List.filter_sublist)
    have hp := (List.perm_ext_iff_of_nodup ho.nodup hn).2 (fun x => by
      rw [ho.mem x]
      constructor
      · intro hx
        obtain ⟨h1, h2⟩ := reach_rng (by omega) hx
        exact List.mem_map.2 ⟨x.toNat, List.mem_filter.2 ⟨List.mem_range.2 (by omega), by rw [Int.toNat_of_nonneg h1]; exact walk_reach.2 hx⟩, Int.toNat_of_nonneg h1⟩
      · intro hx
        obtain ⟨i, hi, rfl⟩ := List.mem_map.1 hx
        exact walk_reach.1 (List.mem_filter.1 hi).2)
    rw [hp.length_eq, List.length_map]; rfl
theorem at_eq {n : Nat} {l : List Int} {f : Int → Int} (h : IntsOf n l f) {x v : Int} (h0 : 0 ≤ x) (h1 : x < n) (e : f x = v) : (ints l)[x.toNat]? = some (.int .i64 v) := by rw [← e]; exact h.at_ h0 h1
end Go.Mor
namespace Go.Mor
open Go.RowKit
inductive Low (K : Int → List Int) : List (Int × Int) → Int → Nat → List (Int × Nat) → Recs → Prop
  | nil : Low K [] 0 0 [] []
  | snoc {ws : List (Int × Int)} {b c : Int} {n0 n1 j : Nat} {op : List (Int × Nat)} {rs r : Recs} : Low K ws b n0 op rs → VisL K ((K b).take j) (n0 + 1) n1 r → (K b)[j]? = some c →
      Low K (ws ++ [(b, (j : Int) + 1)]) c n1 (op ++ [(b, n0 + 1)]) (rs ++ r)
def ArrIn (f : Int → Int) (op : List (Int × Nat)) (rs : Recs) : Prop := ∀ x : Int, (∀ i : Nat, (x, i) ∈ op → f x = i) ∧ (∀ i o : Nat, (x, i, o) ∈ rs → f x = i) ∧ ((∀ i : Nat, (x, i) ∉ op) → (∀ i o : Nat, (x, i, o) ∉ rs) → f x = 0)
def ArrOut (g : Int → Int) (rs : Recs) : Prop := ∀ x : Int, (∀ i o : Nat, (x, i, o) ∈ rs → g x = o) ∧ ((∀ i o : Nat, (x, i, o) ∉ rs) → g x = 0)
def updF (f : Int → Int) (b v : Int) : Int → Int := fun x => if x = b then v else f x
section
variable {K : Int → List Int} {pl up : Int → Int}
theorem VisL.len {l : List Int} {n m : Nat} {r : Recs} (h : VisL K l n m r) : m = n + 2 * r.length := by
  refine VisL.rec (motive_1 := fun _ n m r _ => m = n + 2 * r.length) (motive_2 := fun _ n m r _ => m = n + 2 * r.length) ?_ ?_ ?_ h
  · intro b n m r _ ih
    simp only [List.length_append, List.length_cons, List.length_nil]
    omega
  · intro n; simp
  · intro l c n m p r s _ _ i1 i2
    simp only [List.length_append]
    omega
mutual
theorem Vis.nod (h : TreeP K pl up) {b : Int} (hb : 0 ≤ pl b) {n m : Nat} {r : Recs} : Vis K b n m r → (r.map (·.1)).Nodup
  | .mk (m := m) (r := r) hl => by
    have f := VisL.facts h.toTreeU hl
    rw [List.map_append, List.nodup_append]
    refine ⟨VisL.nod h hb (fun c hc => hc) (h.nod b) hl, by simp, fun x hx y hy e => ?_⟩
    simp at hy
    subst hy
    subst e
    obtain ⟨⟨x, i, o⟩, mx, rfl⟩ := List.mem_map.1 hx
    obtain ⟨⟨c, hc, ha⟩, _⟩ := f.1 x i o mx
    have h4 := (h.kid _ _ hc).2.2
    have h5 := h.le _ _ ha hb
    simp only at h4
    omega
theorem VisL.nod (h : TreeP K pl up) {b : Int} (hb : 0 ≤ pl b) {l : List Int} (hsub : ∀ c, c ∈ l → c ∈ K b) (hnd : l.Nodup) {n m : Nat} {r : Recs} : VisL K l n m r → (r.map (·.1)).Nodup
  | .nil => by simp
  | .snoc (l := l) (c := c) hl hv => by
    have f1 := VisL.facts h.toTreeU hl
    have f2 := Vis.facts h.toTreeU hv
    have hcK := hsub c (by simp)
    rw [List.nodup_append] at hnd
    rw [List.map_append, List.nodup_append]
    refine ⟨VisL.nod h hb (fun c hc => hsub c (List.mem_append_left _ hc)) hnd.1 hl, Vis.nod h (h.pos b hb c hcK) hv, fun x hx y hy e => ?_⟩
    obtain ⟨⟨x, i, o⟩, mx, rfl⟩ := List.mem_map.1 hx
    obtain ⟨⟨y, i', o'⟩, my, rfl⟩ := List.mem_map.1 hy
    simp only at e
    subst e
    obtain ⟨⟨c', hc', ha⟩, _⟩ := f1.1 x i o mx
    obtain ⟨hb', _⟩ := f2.1 x i' o' my
    have := h.sub hcK (hsub c' (List.mem_append_left _ hc')) h.le hb hb' ha
    exact hnd.2.2 c' hc' c (by simp) this.symm
end
theorem Low.facts (h : TreeP K pl up) (h0 : 0 ≤ pl 0) {ws : List (Int × Int)} {b : Int} {n0 : Nat} {op : List (Int × Nat)} {rs : Recs} (hl : Low K ws b n0 op rs) :
    0 ≤ pl b ∧ (∀ x i, (x, i) ∈ op → Anc up b x ∧ pl x < pl b ∧ 0 ≤ pl x ∧ 1 ≤ i) ∧ (∀ x i o, (x, i, o) ∈ rs → ¬ Anc up x b ∧ 0 ≤ pl x) ∧ (op.map (·.1) ++ rs.map (·.1)).Nodup ∧ n0 = op.length + 2 * rs.length := by
  induction hl with
  | nil => exact ⟨h0, by simp, by simp, by simp, by simp⟩
  | @snoc ws b c n0 n1 j op rs r hl hv hc ih =>
    obtain ⟨hb, h1, h2, h3, h4⟩ := ih
    have hcK : c ∈ K b := List.mem_of_getElem? hc
    have hcp := h.pos b hb c hcK
    have hk := h.kid b c hcK
    have hsub : ∀ x, x ∈ (K b).take j → x ∈ K b := fun x hx => List.mem_of_mem_take hx
    have fr := VisL.facts h.toTreeU hv
    have hnot : ∀ x, x ∈ (K b).take j → x ≠ c := by
      rintro x hx rfl
      obtain ⟨i, hi, he⟩ := List.mem_take_iff_getElem.1 hx
      have hi' : (K b)[i]? = some x := by rw [List.getElem?_eq_getElem (by omega), he]
      have hd := h.nod b
      obtain ⟨hj, hje⟩ := List.getElem?_eq_some_iff.1 hc
      have := (List.nodup_iff_pairwise_ne.1 hd)
      rw [List.pairwise_iff_getElem] at this
      exact this i j (by omega) hj (by omega) (by rw [he, hje])
    have hr : ∀ x i o, (x, i, o) ∈ r → ¬ Anc up x c ∧ Anc up x b ∧ 0 ≤ pl x ∧ x ≠ b := by
      intro x i o hx
      obtain ⟨⟨c', hc', ha⟩, _⟩ := fr.1 x i o hx
      have hk' := h.kid b c' (hsub c' hc')
      refine ⟨fun ha' => hnot c' hc' (h.sub (hsub c' hc') hcK h.le hb ha ha'), ha.trans (h.anc (hsub c' hc')), ?_, ?_⟩
      · rcases Int.lt_or_le (pl x) 0 with h7 | h7
        · exfalso
          exact absurd ha (h.neg x c' h7 (h.pos b hb c' (hsub c' hc')))
        · exact h7
      · rintro rfl
        have := h.le _ _ ha hb
        omega
    refine ⟨hcp, fun x i hx => ?_, fun x i o hx => ?_, ?_, ?_⟩
    · rcases List.mem_append.1 hx with hx | hx
      · obtain ⟨a1, a2, a3, a4⟩ := h1 x i hx
        exact ⟨(h.anc hcK).trans a1, by omega, a3, a4⟩
      · simp only [List.mem_singleton, Prod.mk.injEq] at hx
        obtain ⟨rfl, rfl⟩ := hx
        exact ⟨h.anc hcK, hk.2.2, hb, by omega⟩
    · rcases List.mem_append.1 hx with hx | hx
      · obtain ⟨a1, a2⟩ := h2 x i o hx
        refine ⟨fun ha => ?_, a2⟩
        exact a1 (ha.trans (h.anc hcK))
      · exact ⟨(hr x i o hx).1, (hr x i o hx).2.2.1⟩
    · rw [List.nodup_append] at h3
      rw [List.map_append, List.map_append, List.nodup_append, List.nodup_append, List.nodup_append]
      refine ⟨⟨h3.1, by simp, fun x hx y hy e => ?_⟩, ⟨h3.2.1, VisL.nod h hb hsub ((h.nod b).sublist (List.take_sublist _ _)) hv, fun x hx y hy e => ?_⟩, fun x hx y hy e => ?_⟩
      · simp at hy
        subst hy
        subst e
        obtain ⟨⟨x, i⟩, mx, rfl⟩ := List.mem_map.1 hx
        have := (h1 x i mx).2.1
        simp only at this
        omega
      · obtain ⟨⟨x, i, o⟩, mx, rfl⟩ := List.mem_map.1 hx
        obtain ⟨⟨y, i', o'⟩, my, rfl⟩ := List.mem_map.1 hy
        simp only at e
        subst e
        exact (h2 x i o mx).1 (hr x i' o' my).2.1
      · rcases List.mem_append.1 hx with hx | hx <;> rcases List.mem_append.1 hy with hy | hy
        · exact h3.2.2 x hx y hy e
        · obtain ⟨⟨x, i⟩, mx, rfl⟩ := List.mem_map.1 hx
          obtain ⟨⟨y, i', o'⟩, my, rfl⟩ := List.mem_map.1 hy
          simp only at e
          subst e
          have a1 := (hr x i' o' my).2.1
          have a2 := h.le _ _ a1 (hr x i' o' my).2.2.1
          have := (h1 x i mx).2.1
          omega
        · simp at hx
          subst hx
          subst e
          obtain ⟨⟨y, i', o'⟩, my, rfl⟩ := List.mem_map.1 hy
          exact (h2 y i' o' my).1 (.refl _)
        · simp at hx
          subst hx
          subst e
          obtain ⟨⟨y, i', o'⟩, my, rfl⟩ := List.mem_map.1 hy
          exact (hr y i' o' my).2.2.2 rfl
    · have := VisL.len hv
      simp only [List.length_append, List.length_cons, List.length_nil]
      omega
end
end Go.Mor
namespace Go.Mor
open Go.RowKit
def UNS (K : Int → List Int) (ws : List (Int × Int)) (b : Int) (n : Nat) (f g : Int → Int) : Prop := ∃ op rs, Low K ws b n op rs ∧ ArrIn f op rs ∧ ArrOut g rs
def STA (K : Int → List Int) (ws : List (Int × Int)) (b : Int) (k n : Nat) (f g : Int → Int) : Prop :=
  ∃ op rs n0 r, Low K ws b n0 op rs ∧ VisL K ((K b).take k) (n0 + 1) n r ∧ k ≤ (K b).length ∧ ArrIn f (op ++ [(b, n0 + 1)]) (rs ++ r) ∧ ArrOut g (rs ++ r)
def FIN (K : Int → List Int) (n : Nat) (f g : Int → Int) : Prop := ∃ rs, Vis K 0 0 n rs ∧ ArrIn f [] rs ∧ ArrOut g rs
def HEAD (K : Int → List Int) (way : List (Int × Int)) (n : Nat) (f g : Int → Int) : Prop :=
  (way = [] ∧ FIN K n f g) ∨ ∃ (ws : List (Int × Int)) (b : Int) (k : Nat), way = ws ++ [(b, (k : Int))] ∧ ((k = 0 ∧ UNS K ws b n f g) ∨ (1 ≤ k ∧ STA K ws b k n f g))
section
variable {K : Int → List Int} {pl up : Int → Int} {ws : List (Int × Int)} {b : Int} {n k : Nat} {f g : Int → Int}
theorem UNS.start (h : TreeP K pl up) (h0 : 0 ≤ pl 0) (hu : UNS K ws b n f g) : STA K ws b 0 (n + 1) (updF f b ((n : Int) + 1)) g := by
  obtain ⟨op, rs, hl, hf, hg⟩ := hu
  obtain ⟨f1, f2, f3, f4, f5⟩ := hl.facts h h0
  refine ⟨op, rs, n, [], hl, by rw [List.take_zero]; exact .nil, Nat.zero_le _, ?_, by rw [List.append_nil]; exact hg⟩
  rw [List.append_nil]
  intro x
  unfold updF
  by_cases e : x = b
  · subst e
    rw [if_pos rfl]
    refine ⟨fun i hi => ?_, fun i o hi => ?_, fun hi _ => ?_⟩
    · rcases List.mem_append.1 hi with hi | hi
      · have := (f2 x i hi).2.1; omega
      · simp only [List.mem_singleton, Prod.mk.injEq] at hi
        obtain ⟨_, rfl⟩ := hi
        simp
    · exact absurd (.refl _) (f3 x i o hi).1
    · exact absurd (by simp : (x, n + 1) ∈ op ++ [(x, n + 1)]) (hi (n + 1))
  · rw [if_neg e]
    refine ⟨fun i hi => ?_, (hf x).2.1, fun hi hj => (hf x).2.2 (fun i hm => hi i (List.mem_append_left _ hm)) hj⟩
    rcases List.mem_append.1 hi with hi | hi
    · exact (hf x).1 i hi
    · simp only [List.mem_singleton, Prod.mk.injEq] at hi
      exact absurd hi.1 e
theorem STA.pos (h : TreeP K pl up) (h0 : 0 ≤ pl 0) (hs : STA K ws b k n f g) : 0 ≤ pl b := by
  obtain ⟨op, rs, n0, r, hl, _⟩ := hs
  exact (hl.facts h h0).1
theorem UNS.pos (h : TreeP K pl up) (h0 : 0 ≤ pl 0) (hs : UNS K ws b n f g) : 0 ≤ pl b := by
  obtain ⟨op, rs, hl, _⟩ := hs
  exact (hl.facts h h0).1
theorem STA.push (hs : STA K ws b k n f g) {c : Int} (hc : (K b)[k]? = some c) : UNS K (ws ++ [(b, (k : Int) + 1)]) c n f g := by
  obtain ⟨op, rs, n0, r, hl, hv, hk, hf, hg⟩ := hs
  exact ⟨_, _, .snoc hl hv hc, hf, hg⟩
theorem STA.finish (h : TreeP K pl up) (h0 : 0 ≤ pl 0) (hs : STA K ws b (K b).length n f g) : HEAD K ws (n + 1) f (updF g b ((n : Int) + 1)) := by
  obtain ⟨op, rs, n0, r, hl, hv, hk, hf, hg⟩ := hs
  obtain ⟨f1, f2, f3, f4, f5⟩ := hl.facts h h0
  rw [List.take_length] at hv
  have fr := VisL.facts h.toTreeU hv
  have hvis : Vis K b n0 (n + 1) (r ++ [(b, n0 + 1, n + 1)]) := .mk hv
  have hnr : ∀ i o : Nat, (b, i, o) ∉ rs ++ r := by
    intro i o hm
    rcases List.mem_append.1 hm with hm | hm
    · exact (f3 b i o hm).1 (.refl _)
    · obtain ⟨⟨c, hc, ha⟩, _⟩ := fr.1 b i o hm
      have := h.le _ _ ha f1
      have := (h.kid b c hc).2.2
      omega
  have hf' : ArrIn f op (rs ++ (r ++ [(b, n0 + 1, n + 1)])) := by
    intro x
    refine ⟨fun i hi => (hf x).1 i (List.mem_append_left _ hi), fun i o hi => ?_, fun hi hj => (hf x).2.2 (fun i hm => ?_) (fun i o hm => hj i o ?_)⟩
    · rw [← List.append_assoc] at hi
      rcases List.mem_append.1 hi with hi | hi
      · exact (hf x).2.1 i o hi
      · simp only [List.mem_singleton, Prod.mk.injEq] at hi
        obtain ⟨rfl, rfl, rfl⟩ := hi
        exact (hf x).1 (n0 + 1) (by simp)
    · rcases List.mem_append.1 hm with hm | hm
      · exact hi i hm
      · simp only [List.mem_singleton, Prod.mk.injEq] at hm
        obtain ⟨rfl, rfl⟩ := hm
        exact hj (n0 + 1) (n + 1) (by simp)
    · rw [← List.append_assoc]; exact List.mem_append_left _ hm
  have hg' : ArrOut (updF g b ((n : Int) + 1)) (rs ++ (r ++ [(b, n0 + 1, n + 1)])) := by
    intro x
    unfold updF
    rw [← List.append_assoc]
    by_cases e : x = b
    · subst e
      rw [if_pos rfl]
      refine ⟨fun i o hi => ?_, fun hi => absurd (by simp : (x, n0 + 1, n + 1) ∈ rs ++ r ++ [(x, n0 + 1, n + 1)]) (hi _ _)⟩
      rcases List.mem_append.1 hi with hi | hi
      · exact absurd hi (hnr i o)
      · simp only [List.mem_singleton, Prod.mk.injEq] at hi
        obtain ⟨_, _, rfl⟩ := hi
        simp
    · rw [if_neg e]
      refine ⟨fun i o hi => ?_, fun hi => (hg x).2 (fun i o hm => hi i o (List.mem_append_left _ hm))⟩
      rcases List.mem_append.1 hi with hi | hi
      · exact (hg x).1 i o hi
      · simp only [List.mem_singleton, Prod.mk.injEq] at hi
        exact absurd hi.1 e
  cases hl with
  | nil =>
    exact .inl ⟨rfl, _, by simpa using hvis, by simpa using hf', by simpa using hg'⟩
  | @snoc ws' b' _ m0 _ j op' rs' r' hl' hv' hc' =>
    refine .inr ⟨ws', b', j + 1, by simp, .inr ⟨by omega, op', rs', m0, r' ++ (r ++ [(b, n0 + 1, n + 1)]), hl', ?_, ?_, ?_, ?_⟩⟩
    · obtain ⟨hj, hje⟩ := List.getElem?_eq_some_iff.1 hc'
      rw [List.take_succ_eq_append_getElem hj, hje]
      exact .snoc hv' hvis
    · exact (List.getElem?_eq_some_iff.1 hc').1
    · rw [List.append_assoc] at hf'; exact hf'
    · rw [List.append_assoc] at hg'; exact hg'
theorem nodup_le {l : List Int} {N : Nat} (hn : l.Nodup) (hr : ∀ x, x ∈ l → 0 ≤ x ∧ x < (N : Int)) : l.length ≤ N := by
  have hp := (List.perm_ext_iff_of_nodup hn (l₂ := ((List.range N).filter (fun i : Nat => decide ((i : Int) ∈ l))).map (fun i : Nat => (i : Int))) (nodup_cast (List.nodup_range.sublist List.filter_sublist))).2 (fun x => by
    constructor
    · intro hx
      obtain ⟨h1, h2⟩ := hr x hx
      have e : ((x.toNat : Nat) : Int) = x := Int.toNat_of_nonneg h1
      exact List.mem_map.2 ⟨x.toNat, List.mem_filter.2 ⟨List.mem_range.2 (by omega), by rw [e]; simpa using hx⟩, e⟩
    · intro hx
      obtain ⟨i, hi, rfl⟩ := List.mem_map.1 hx
      simpa using (List.mem_filter.1 hi).2)
  rw [hp.length_eq, List.length_map]
  exact Nat.le_trans (List.length_filter_le _ _) (by simp)
theorem Low.bound (h : TreeP K pl up) (h0 : 0 ≤ pl 0) {N : Nat} (hN : ∀ x, 0 ≤ pl x → 0 ≤ x ∧ x < (N : Int)) {op : List (Int × Nat)} {rs : Recs} (hl : Low K ws b n op rs) : n + 2 ≤ 2 * N := by
  obtain ⟨f1, f2, f3, f4, f5⟩ := hl.facts h h0
  have hnd : (b :: (op.map (·.1) ++ rs.map (·.1))).Nodup := by
    rw [List.nodup_cons]
    refine ⟨fun hm => ?_, f4⟩
    rcases List.mem_append.1 hm with hm | hm
    · obtain ⟨⟨x, i⟩, mx, rfl⟩ := List.mem_map.1 hm
      have := (f2 x i mx).2.1
      simp only at this
      omega
    · obtain ⟨⟨x, i, o⟩, mx, rfl⟩ := List.mem_map.1 hm
      exact (f3 x i o mx).1 (.refl _)
  have := nodup_le (N := N) hnd (fun x hx => by
    rcases List.mem_cons.1 hx with rfl | hx
    · exact hN _ f1
    · rcases List.mem_append.1 hx with hm | hm
      · obtain ⟨⟨x, i⟩, mx, rfl⟩ := List.mem_map.1 hm
        exact hN _ (f2 x i mx).2.2.1
      · obtain ⟨⟨x, i, o⟩, mx, rfl⟩ := List.mem_map.1 hm
        exact hN _ (f3 x i o mx).2)
  simp only [List.length_cons, List.length_append, List.length_map] at this
  omega
theorem UNS.bound (h : TreeP K pl up) (h0 : 0 ≤ pl 0) {N : Nat} (hN : ∀ x, 0 ≤ pl x → 0 ≤ x ∧ x < (N : Int)) (hu : UNS K ws b n f g) : n + 2 ≤ 2 * N := by
  obtain ⟨op, rs, hl, _⟩ := hu
  exact hl.bound h h0 hN
theorem STA.bound (h : TreeP K pl up) (h0 : 0 ≤ pl 0) {N : Nat} (hN : ∀ x, 0 ≤ pl x → 0 ≤ x ∧ x < (N : Int)) (hs : STA K ws b k n f g) : n + 1 ≤ 2 * N := by
  obtain ⟨op, rs, n0, r, hl, hv, hk, _, _⟩ := hs
  obtain ⟨f1, f2, f3, f4, f5⟩ := hl.facts h h0
  have fr := VisL.facts h.toTreeU hv
  have hsub : ∀ x, x ∈ (K b).take k → x ∈ K b := fun x hx => List.mem_of_mem_take hx
  have hrb : ∀ x i o, (x, i, o) ∈ r → Anc up x b ∧ 0 ≤ pl x ∧ x ≠ b := by
    intro x i o hx
    obtain ⟨⟨c', hc', ha⟩, _⟩ := fr.1 x i o hx
    have hk' := h.kid b c' (hsub c' hc')
    refine ⟨ha.trans (h.anc (hsub c' hc')), ?_, ?_⟩
    · rcases Int.lt_or_le (pl x) 0 with h7 | h7
      · exact absurd ha (h.neg x c' h7 (h.pos b f1 c' (hsub c' hc')))
      · exact h7
    · rintro rfl
      have := h.le _ _ ha f1
      omega
  have hnd : (b :: ((op.map (·.1) ++ rs.map (·.1)) ++ r.map (·.1))).Nodup := by
    rw [List.nodup_cons, List.nodup_append]
    refine ⟨fun hm => ?_, f4, VisL.nod h f1 hsub ((h.nod b).sublist (List.take_sublist _ _)) hv, fun x hx y hy e => ?_⟩
    · rcases List.mem_append.1 hm with hm | hm
      · rcases List.mem_append.1 hm with hm | hm
        · obtain ⟨⟨x, i⟩, mx, rfl⟩ := List.mem_map.1 hm
          have := (f2 x i mx).2.1
          simp only at this
          omega
        · obtain ⟨⟨x, i, o⟩, mx, rfl⟩ := List.mem_map.1 hm
          exact (f3 x i o mx).1 (.refl _)
      · obtain ⟨⟨x, i, o⟩, mx, rfl⟩ := List.mem_map.1 hm
        exact (hrb x i o mx).2.2 rfl
    · obtain ⟨⟨y, i', o'⟩, my, rfl⟩ := List.mem_map.1 hy
      rcases List.mem_append.1 hx with hx | hx
      · obtain ⟨⟨x, i⟩, mx, rfl⟩ := List.mem_map.1 hx
        simp only at e
        subst e
        have := (f2 x i mx).2.1
        have := h.le _ _ (hrb x i' o' my).1 (hrb x i' o' my).2.1
        omega
      · obtain ⟨⟨x, i, o⟩, mx, rfl⟩ := List.mem_map.1 hx
        simp only at e
        subst e
        exact (f3 x i o mx).1 (hrb x i' o' my).1
  have := nodup_le (N := N) hnd (fun x hx => by
    rcases List.mem_cons.1 hx with rfl | hx
    · exact hN _ f1
    · rcases List.mem_append.1 hx with hx | hx
      · rcases List.mem_append.1 hx with hm | hm
        · obtain ⟨⟨x, i⟩, mx, rfl⟩ := List.mem_map.1 hm
          exact hN _ (f2 x i mx).2.2.1
        · obtain ⟨⟨x, i, o⟩, mx, rfl⟩ := List.mem_map.1 hm
          exact hN _ (f3 x i o mx).2
      · obtain ⟨⟨x, i, o⟩, mx, rfl⟩ := List.mem_map.1 hx
        exact hN _ (hrb x i o mx).2.1)
  have hlen := VisL.len hv
  simp only [List.length_cons, List.length_append, List.length_map] at this
  omega
end
section
variable {K : Int → List Int} {pl up : Int → Int}
mutual
theorem Vis.kids {b : Int} {n m : Nat} {r : Recs} : Vis K b n m r → (∃ i o, (b, i, o) ∈ r) ∧ ∀ x i o, (x, i, o) ∈ r → ∀ c, c ∈ K x → ∃ i' o', (c, i', o') ∈ r
  | .mk (m := m) (r := r) hl => by
    have ih := VisL.kids hl
    refine ⟨⟨n + 1, m + 1, by simp⟩, fun x i o hx c hc => ?_⟩
    rcases List.mem_append.1 hx with hx | hx
    · obtain ⟨i', o', h'⟩ := ih.2 x i o hx c hc
      exact ⟨i', o', List.mem_append_left _ h'⟩
    · simp only [List.mem_singleton, Prod.mk.injEq] at hx
      obtain ⟨rfl, _, _⟩ := hx
      obtain ⟨i', o', h'⟩ := ih.1 c hc
      exact ⟨i', o', List.mem_append_left _ h'⟩
theorem VisL.kids {l : List Int} {n m : Nat} {r : Recs} : VisL K l n m r → (∀ c, c ∈ l → ∃ i o, (c, i, o) ∈ r) ∧ ∀ x i o, (x, i, o) ∈ r → ∀ c, c ∈ K x → ∃ i' o', (c, i', o') ∈ r
  | .nil => ⟨fun c hc => by simp at hc, fun x i o hx => by simp at hx⟩
  | .snoc (l := l) (c := c0) hl hv => by
    have i1 := VisL.kids hl
    have i2 := Vis.kids hv
    refine ⟨fun c hc => ?_, fun x i o hx c hc => ?_⟩
    · rcases List.mem_append.1 hc with hc | hc
      · obtain ⟨i', o', h'⟩ := i1.1 c hc
        exact ⟨i', o', List.mem_append_left _ h'⟩
      · simp only [List.mem_singleton] at hc
        subst hc
        obtain ⟨i', o', h'⟩ := i2.1
        exact ⟨i', o', List.mem_append_right _ h'⟩
    · rcases List.mem_append.1 hx with hx | hx
      · obtain ⟨i', o', h'⟩ := i1.2 x i o hx c hc
        exact ⟨i', o', List.mem_append_left _ h'⟩
      · obtain ⟨i', o', h'⟩ := i2.2 x i o hx c hc
        exact ⟨i', o', List.mem_append_right _ h'⟩
end
theorem FIN.stands {n : Nat} {f g : Int → Int} (h : TreeP K pl up) (h0 : 0 ≤ pl 0) (hall : ∀ x, 0 ≤ pl x → x ≠ 0 → x ∈ K (up x) ∧ 0 ≤ pl (up x) ∧ pl (up x) < pl x) (hf : FIN K n f g) {x y : Int} (hx : 0 ≤ pl x) (hy : 0 ≤ pl y) :
    (0 < f x ∧ 0 < f y ∧ f x ≤ f y ∧ g y ≤ g x) ↔ Anc up y x := by
  obtain ⟨rs, hv, hin, hout⟩ := hf
  have hk := Vis.kids hv
  have key : ∀ (m : Nat) (x : Int), 0 ≤ pl x → (pl x).toNat ≤ m → ∃ i o, (x, i, o) ∈ rs := by
    intro m
    induction m with
    | zero =>
      intro x hx hm
      by_cases e : x = 0
      · subst e; exact hk.1
      · have := hall x hx e; omega
    | succ m ih =>
      intro x hx hm
      by_cases e : x = 0
      · subst e; exact hk.1
      · obtain ⟨h1, h2, h3⟩ := hall x hx e
        obtain ⟨i, o, hm'⟩ := ih (up x) h2 (by omega)
        exact hk.2 _ i o hm' x h1
  obtain ⟨i, o, mx⟩ := key _ x hx (Nat.le_refl _)
  obtain ⟨i', o', my⟩ := key _ y hy (Nat.le_refl _)
  have fr := Vis.facts h.toTreeU hv
  obtain ⟨_, p1, p2, _⟩ := fr.1 x i o mx
  obtain ⟨_, p3, p4, _⟩ := fr.1 y i' o' my
  rw [(hin x).2.1 i o mx, (hin y).2.1 i' o' my, (hout x).1 i o mx, (hout y).1 i' o' my, ← Vis.hold h h0 hv x i o y i' o' mx my]
  omega
end
end Go.Mor
namespace Go.Mor
open Go.RowKit
def kidAt (bs : List SB) (up : Int → Int) (k : Nat) (d : Int) : List Int := ((orderL bs).take k).filter (fun x => up x == d)
def kidsTo (bs : List SB) (up : Int → Int) (k : Nat) : List (List Int) := (List.range bs.length).map (fun d : Nat => kidAt bs up k (d : Int))
def kidsU (bs : List SB) (up : Int → Int) (b : Int) : List Int := if 0 ≤ b then (orderL bs).filter (fun x => up x == b) else []
section
variable {bs : List SB} {up : Int → Int}
theorem kidAt_len (k : Nat) (d : Int) : (kidAt bs up k d).length ≤ bs.length := by
  have := orderL_len bs
  have h2 := List.length_filter_le (fun x => up x == d) ((orderL bs).take k)
  have : ((orderL bs).take k).length ≤ (orderL bs).length := by simp; omega
  unfold kidAt
  omega
theorem kidsTo_zero : kidsTo bs up 0 = List.replicate bs.length [] := by
  unfold kidsTo kidAt
  apply List.ext_getElem?
  intro t
  by_cases h : t < bs.length
  · simp [h]
  · rw [List.getElem?_eq_none (by simpa using h), List.getElem?_eq_none (by simpa using h)]
theorem kidsTo_len (k : Nat) : (kidsTo bs up k).length = bs.length := by simp [kidsTo]
theorem kidsTo_get {k d : Nat} (hd : d < bs.length) : (kidsTo bs up k)[d]? = some (kidAt bs up k (d : Int)) := by simp [kidsTo, hd]
theorem kidsTo_next {k d : Nat} {b : Int} (hk : (orderL bs)[k]? = some b) (hu : up b = (d : Int)) (hd : d < bs.length) : (kidsTo bs up k).set d (kidAt bs up k (d : Int) ++ [b]) = kidsTo bs up (k + 1) := by
  apply List.ext_getElem?
  intro t
  by_cases e : d = t
  · subst e
    rw [List.getElem?_set_self (by rw [kidsTo_len]; exact hd), kidsTo_get hd]
    congr 1
    unfold kidAt
    rw [take_snoc hk, List.filter_append]
    simp [hu]
  · rw [List.getElem?_set_ne e]
    by_cases h : t < bs.length
    · rw [kidsTo_get h, kidsTo_get h]
      congr 1
      unfold kidAt
      rw [take_snoc hk, List.filter_append]
      have : ¬ up b = (t : Int) := by rw [hu]; omega
      simp [this]
    · rw [List.getElem?_eq_none (by rw [kidsTo_len]; omega), List.getElem?_eq_none (by rw [kidsTo_len]; omega)]
theorem kidsTo_skip {k : Nat} {b : Int} (hk : (orderL bs)[k]? = some b) (hu : up b < 0) : kidsTo bs up k = kidsTo bs up (k + 1) := by
  unfold kidsTo
  apply List.map_congr_left
  intro t _
  unfold kidAt
  rw [take_snoc hk, List.filter_append]
  have : ¬ up b = (t : Int) := by omega
  simp [this]
theorem kidsTo_at {k b : Nat} (hk : (orderL bs).length ≤ k) (hb : b < bs.length) : (kidsTo bs up k)[b]? = some (kidsU bs up (b : Int)) := by
  rw [kidsTo_get hb]
  unfold kidAt kidsU
  rw [List.take_of_length_le hk, if_pos (by omega)]
theorem kids_mem {b c : Int} : c ∈ kidsU bs up b ↔ 0 ≤ b ∧ c ∈ orderL bs ∧ up c = b := by
  unfold kidsU
  split
  · rename_i h; simp [h]
  · rename_i h; simp [h]
theorem kidsU_len (b : Int) : (kidsU bs up b).length ≤ bs.length := by
  unfold kidsU
  have := orderL_len bs
  split
  · have h2 := List.length_filter_le (fun x => up x == b) (orderL bs); omega
  · simp
theorem ord_pl (h0 : 0 < bs.length) {c : Int} : c ∈ orderL bs ↔ 0 ≤ plB bs c := by
  rw [(plB_plc h0).reach, (order_ok h0).mem]
theorem FinU.tree (h0 : 0 < bs.length) (hf : FinU bs up) : TreeP (kidsU bs up) (plB bs) up where
  kid b c hc := by
    obtain ⟨h1, h2, h3⟩ := kids_mem.1 hc
    have hp := (ord_pl h0).1 h2
    have hne : c ≠ 0 := by
      rintro rfl
      have := hf.off 0 (.inr rfl)
      omega
    have := (hf.ok.low c (hf.prc c hp) hne).2
    rw [h3] at this
    exact ⟨h3, hne, this⟩
  nod b := by
    unfold kidsU
    split
    · exact (order_ok h0).nodup.sublist List.filter_sublist
    · exact List.nodup_nil
  le x d h hx := (Anc.prc hf.ok h (hf.prc x hx)).2.1
  pos b hb c hc := (ord_pl h0).1 (kids_mem.1 hc).2.1
  neg x d hx hd h := by
    induction h with
    | refl => omega
    | @step x d hne h ih =>
      refine ih ?_ hd
      rw [hf.off x (.inl hx)]
      rcases Int.lt_or_le (plB bs (-1)) 0 with h1 | h1
      · exact h1
      · have := plB_rng h0 h1; omega
theorem FinU.hall (h0 : 0 < bs.length) (hf : FinU bs up) : ∀ x, 0 ≤ plB bs x → x ≠ 0 → x ∈ kidsU bs up (up x) ∧ 0 ≤ plB bs (up x) ∧ plB bs (up x) < plB bs x := by
  intro x hx hne
  obtain ⟨h1, h2⟩ := hf.ok.low x (hf.prc x hx) hne
  have := plB_rng h0 h1.1
  exact ⟨kids_mem.2 ⟨this.1, (ord_pl h0).2 hx, rfl⟩, h1.1, h2⟩
theorem up_nat (h0 : 0 < bs.length) (hf : FinU bs up) {b : Int} (hb : 0 ≤ plB bs b) (hu : 0 ≤ up b) : ∃ d : Nat, up b = (d : Int) ∧ d < bs.length := by
  have hne : b ≠ 0 := by
    rintro rfl
    have := hf.off 0 (.inr rfl)
    omega
  have h := plB_rng h0 (hf.hall h0 b hb hne).2.1
  exact ⟨(up b).toNat, (Int.toNat_of_nonneg h.1).symm, by omega⟩
theorem kid_nat (h0 : 0 < bs.length) {b : Int} {k : Nat} (hk : k < (kidsU bs up b).length) : ∃ ci : Nat, (kidsU bs up b)[k]? = some (ci : Int) ∧ ci < bs.length := by
  have hm : (kidsU bs up b)[k] ∈ kidsU bs up b := List.getElem_mem hk
  have hp := (ord_pl h0).1 (kids_mem.1 hm).2.1
  have := plB_rng h0 hp
  exact ⟨((kidsU bs up b)[k]).toNat, by rw [List.getElem?_eq_getElem hk, Int.toNat_of_nonneg this.1], by omega⟩
end
theorem mdc_push (ws : List (Int × Int)) (b k : Int) : mdc ws ++ [.int .i64 b, .int .i64 k] = mdc (ws ++ [(b, k)]) := by simp [mdc]
theorem mdc_top (ws : List (Int × Int)) (b k : Int) : (mdc (ws ++ [(b, k)]))[ws.length * 2]? = some (.int .i64 b) ∧ (mdc (ws ++ [(b, k)]))[ws.length * 2 + 1]? = some (.int .i64 k) := mdc_at (p := (b, k)) (by simp)
theorem mdc_pop (ws : List (Int × Int)) (b k : Int) : (mdc (ws ++ [(b, k)])).take (ws.length * 2) = mdc ws := by
  rw [← mdc_push, List.take_left' (by rw [mdc_len])]
theorem mdc_inc (ws : List (Int × Int)) (b k v : Int) : (mdc (ws ++ [(b, k)])).set (ws.length * 2 + 1) (.int .i64 v) = mdc (ws ++ [(b, v)]) := by
  rw [← mdc_push, ← mdc_push, List.set_append_right _ _ (by rw [mdc_len]; omega), mdc_len, show ws.length * 2 + 1 - ws.length * 2 = 1 by omega]
  rfl
theorem IntsOf.upd {n : Nat} {l : List Int} {f : Int → Int} (h : IntsOf n l f) {b v : Int} (h0 : 0 ≤ b) (h1 : b < (n : Int)) : IntsOf n (l.set b.toNat v) (updF f b v) := by
  refine h.set (by omega) (by simp [updF, Int.toNat_of_nonneg h0]) (fun j _ hne => ?_)
  unfold updF
  rw [if_neg (by omega)]
theorem ints_zero (n : Nat) : IntsOf n (List.replicate n 0) (fun _ => 0) := ⟨by simp, fun i hi => by simp [List.getD, hi]⟩
section
variable {K : Int → List Int} {ws : List (Int × Int)} {b : Int} {n k : Nat} {f g : Int → Int}
theorem VisL.le {l : List Int} {n m : Nat} {r : Recs} (h : VisL K l n m r) : n ≤ m := by have := VisL.len h; omega
theorem Low.wlen {op : List (Int × Nat)} {rs : Recs} (h : Low K ws b n op rs) : ws.length ≤ n := by
  induction h with
  | nil => simp
  | snoc _ hv _ ih => have := hv.le; simp only [List.length_append, List.length_cons, List.length_nil]; omega
theorem UNS.wlen (h : UNS K ws b n f g) : ws.length ≤ n := by
  obtain ⟨op, rs, hl, _⟩ := h
  exact hl.wlen
theorem STA.wlen (h : STA K ws b k n f g) : ws.length + 1 ≤ n := by
  obtain ⟨op, rs, n0, r, hl, hv, _⟩ := h
  have := hl.wlen
  have := hv.le
  omega
theorem HEAD.start : HEAD K [(0, 0)] 0 (fun _ => 0) (fun _ => 0) := .inr ⟨[], 0, 0, by simp, .inl ⟨rfl, [], [], .nil, fun x => ⟨by simp, by simp, fun _ _ => rfl⟩, fun x => ⟨by simp, fun _ => rfl⟩⟩⟩
theorem HEAD.none (h : HEAD K [] n f g) : FIN K n f g := by
  rcases h with ⟨_, h⟩ | ⟨ws, b, k, e, _⟩
  · exact h
  · simp at e
theorem HEAD.some {way : List (Int × Int)} (h : HEAD K way n f g) (hw : 0 < way.length) : ∃ (ws : List (Int × Int)) (b : Int) (k : Nat), way = ws ++ [(b, (k : Int))] ∧ ((k = 0 ∧ UNS K ws b n f g) ∨ (1 ≤ k ∧ STA K ws b k n f g)) := by
  rcases h with ⟨rfl, _⟩ | h
  · simp at hw
  · exact h
def wflag (way : List (Int × Int)) : Nat := match way.getLast? with
  | some (_, k) => if k = 0 then 0 else 1
  | none => 0
theorem wflag_le (way : List (Int × Int)) : wflag way ≤ 1 := by
  unfold wflag
  split
  · split <;> omega
  · omega
theorem wflag_snoc (ws : List (Int × Int)) (b k : Int) : wflag (ws ++ [(b, k)]) = if k = 0 then 0 else 1 := by simp [wflag]
end
end Go.Mor
namespace Go.Mor
open Go.RowKit
def standQ (f g : Int → Int) (a b : Int) : Prop := 0 < f a ∧ 0 < f b ∧ f a ≤ f b ∧ g b ≤ g a
instance (f g : Int → Int) (a b : Int) : Decidable (standQ f g a b) := by unfold standQ; infer_instance
def thereQ (D : Int → Int → Prop) (pa va : Int) (ds : Dfs) (v b q : Int) : Prop :=
  0 ≤ v ∧ v < va ∧ (v < pa ∨ ∃ p, findD ds v = some p ∧ ((p.1 = b ∧ p.2 < q) ∨ (p.1 ≠ b ∧ D p.1 b)))
noncomputable instance (D : Int → Int → Prop) (pa va : Int) (ds : Dfs) (v b q : Int) : Decidable (thereQ D pa va ds v b q) := Classical.propDecidable _
section
variable {D : Int → Int → Prop} {pa va : Int} {n : Nat} {ds : Dfs} {l : List (Int × Int)} {v b q : Int} {pm : Int × Int}
theorem there_out (h : v < 0 ∨ va ≤ v) : ¬ thereQ D pa va ds v b q := fun ⟨h1, h2, _⟩ => by omega
theorem there_par (h0 : 0 ≤ v) (h1 : v < va) (h2 : v < pa) : thereQ D pa va ds v b q := ⟨h0, h1, .inl h2⟩
theorem tab_at {base : Nat → Int × Int} {enc : Int × Int → Int × Int} (ht : Tab n base enc ds l) (hpm : l[v.toNat]? = some pm) (h0 : 0 ≤ v) (h1 : v < (n : Int)) : pm = (match findD ds v with | some p => enc p | none => base v.toNat) := by
  have := ht.at_ v.toNat (by omega)
  rw [hpm, Int.toNat_of_nonneg h0] at this
  exact Option.some.inj this
theorem find_nonneg (hn : NonNeg ds) {p : Int × Int} (h : findD ds v = some p) : 0 ≤ p.1 := by
  by_cases hm : v ∈ ds.map (·.1)
  · obtain ⟨p', h1, h2⟩ := findD_some hm
    rw [h] at h1
    injection h1 with h1
    subst h1
    exact hn _ h2
  · rw [findD_none hm] at h; cases h
abbrev TabS (n : Nat) (ds : Dfs) (l : List (Int × Int)) : Prop := Tab n (fun _ => (-1, 0)) (fun p => (p.1, p.2 + 1)) ds l
theorem there_no (ht : TabS n ds l) (hn : NonNeg ds) (hpm : l[v.toNat]? = some pm) (h0 : 0 ≤ v) (h1 : v < (n : Int)) (hv : ¬ v < pa) (h2 : pm.1 < 0) : ¬ thereQ D pa va ds v b q := by
  rintro ⟨_, _, h | ⟨p, hp, _⟩⟩
  · exact hv h
  · have := tab_at ht hpm h0 h1
    rw [hp] at this
    have h3 := find_nonneg hn hp
    rw [this] at h2
    simp only at h2
    omega
theorem there_find (ht : TabS n ds l) (hpm : l[v.toNat]? = some pm) (h0 : 0 ≤ v) (h1 : v < (n : Int)) (h2 : 0 ≤ pm.1) : findD ds v = some (pm.1, pm.2 - 1) := by
  have := tab_at ht hpm h0 h1
  cases hf : findD ds v with
  | none =>
    rw [hf] at this
    rw [this] at h2
    simp only at h2
    omega
  | some p =>
    rw [hf] at this
    rw [this]
    simp only [Int.add_sub_cancel]
theorem there_here (ht : TabS n ds l) (hpm : l[v.toNat]? = some pm) (h0 : 0 ≤ v) (h1 : v < (n : Int)) (hva : va = (n : Int)) (hv : ¬ v < pa) (h2 : 0 ≤ pm.1) (h3 : pm.1 = b) : pm.2 ≤ q ↔ thereQ D pa va ds v b q := by
  have hf := there_find ht hpm h0 h1 h2
  constructor
  · intro h
    exact ⟨h0, by omega, .inr ⟨_, hf, .inl ⟨h3, by show pm.2 - 1 < q; omega⟩⟩⟩
  · rintro ⟨_, _, h | ⟨p, hp, h⟩⟩
    · exact absurd h hv
    · rw [hf] at hp
      injection hp with hp
      subst hp
      rcases h with ⟨_, h⟩ | ⟨h, _⟩
      · simp only at h; omega
      · exact absurd h3 h
theorem there_up (ht : TabS n ds l) (hpm : l[v.toNat]? = some pm) (h0 : 0 ≤ v) (h1 : v < (n : Int)) (hva : va = (n : Int)) (hv : ¬ v < pa) (h2 : 0 ≤ pm.1) (h3 : ¬ pm.1 = b) : D pm.1 b ↔ thereQ D pa va ds v b q := by
  have hf := there_find ht hpm h0 h1 h2
  constructor
  · intro h
    exact ⟨h0, by omega, .inr ⟨_, hf, .inr ⟨h3, h⟩⟩⟩
  · rintro ⟨_, _, h | ⟨p, hp, h⟩⟩
    · exact absurd h hv
    · rw [hf] at hp
      injection hp with hp
      subst hp
      rcases h with ⟨h, _⟩ | ⟨_, h⟩
      · exact absurd h h3
      · exact h
theorem there_rng {N : Nat} (ht : TabS n ds l) (hd : ∀ d, d ∈ ds → 0 ≤ d.2.1 ∧ d.2.1 < (N : Int) ∧ -1 ≤ d.2.2) (hpm : l[v.toNat]? = some pm) (h0 : 0 ≤ v) (h1 : v < (n : Int)) (h2 : 0 ≤ pm.1) : pm.1 < (N : Int) := by
  have hf := there_find ht hpm h0 h1 h2
  by_cases hm : v ∈ ds.map (·.1)
  · obtain ⟨p, h3, h4⟩ := findD_some hm
    rw [hf] at h3
    injection h3 with h3
    subst h3
    exact (hd _ h4).2.1
  · rw [findD_none hm] at hf; cases hf
theorem rthere_rng {N : Nat} (ht : Tab n (baseR pa) (fun p => p) ds l) (hd : ∀ d, d ∈ ds → 0 ≤ d.2.1 ∧ d.2.1 < (N : Int) ∧ -1 ≤ d.2.2) (hpm : l[v.toNat]? = some pm) (h0 : 0 ≤ v) (h1 : v < (n : Int)) (hN : 0 < N) : pm.1 < (N : Int) := by
  have h4 := tab_at ht hpm h0 h1
  by_cases hm : v ∈ ds.map (·.1)
  · obtain ⟨p, h5, h6⟩ := findD_some hm
    rw [h5] at h4
    rw [h4]
    exact (hd _ h6).2.1
  · rw [findD_none hm] at h4
    rw [h4]
    show (baseR pa v.toNat).1 < (N : Int)
    unfold baseR
    split <;> simp only <;> omega
abbrev TabR (pa : Int) (n : Nat) (ds : Dfs) (l : List (Int × Int)) : Prop := Tab n (baseR pa) (fun p => p) ds l
theorem rthere_no (ht : TabR pa n ds l) (hn : NonNeg ds) (hpm : l[v.toNat]? = some pm) (h0 : 0 ≤ v) (h1 : v < (n : Int)) (h2 : pm.1 < 0) : ¬ thereQ D pa va ds v b q := by
  have h3 := tab_at ht hpm h0 h1
  rintro ⟨_, _, h | ⟨p, hp, _⟩⟩
  · cases hf : findD ds v with
    | none =>
      rw [hf] at h3
      have : ((v.toNat : Nat) : Int) < pa := by omega
      simp only [baseR, this, if_true] at h3
      rw [h3] at h2
      exact absurd h2 (by decide)
    | some p =>
      rw [hf] at h3
      have := find_nonneg hn hf
      have e : pm = p := h3
      rw [e] at h2
      omega
  · rw [hp] at h3
    have := find_nonneg hn hp
    have e : pm = p := h3
    rw [e] at h2
    omega
theorem rthere_par (ht : TabR pa n ds l) (hk : ∀ d, d ∈ ds → -1 ≤ d.2.2) (hpm : l[v.toNat]? = some pm) (h0 : 0 ≤ v) (h1 : v < (n : Int)) (hva : va = (n : Int)) (h2 : 0 ≤ pm.1) (h3 : pm.2 = -2) : thereQ D pa va ds v b q := by
  have h4 := tab_at ht hpm h0 h1
  cases hf : findD ds v with
  | none =>
    rw [hf] at h4
    by_cases h : ((v.toNat : Nat) : Int) < pa
    · exact ⟨h0, by omega, .inl (by omega)⟩
    · simp only [baseR, h, if_false] at h4
      rw [h4] at h2
      exact absurd h2 (by decide)
  | some p =>
    exfalso
    rw [hf] at h4
    by_cases hm : v ∈ ds.map (·.1)
    · obtain ⟨p', h5, h6⟩ := findD_some hm
      rw [hf] at h5
      injection h5 with h5
      subst h5
      have := hk _ h6
      simp only at this h4
      rw [← h4] at this
      omega
    · rw [findD_none hm] at hf; cases hf
theorem rthere_find (ht : TabR pa n ds l) (hpm : l[v.toNat]? = some pm) (h0 : 0 ≤ v) (h1 : v < (n : Int)) (h2 : 0 ≤ pm.1) (h3 : ¬ pm.2 = -2) : findD ds v = some pm := by
  have h4 := tab_at ht hpm h0 h1
  cases hf : findD ds v with
  | none =>
    rw [hf] at h4
    by_cases h : ((v.toNat : Nat) : Int) < pa
    · simp only [baseR, h, if_true] at h4
      rw [h4] at h3
      exact absurd rfl h3
    · simp only [baseR, h, if_false] at h4
      rw [h4] at h2
      exact absurd h2 (by decide)
  | some p => rw [hf] at h4; rw [h4]
theorem rthere_here (ho : ∀ p, findD ds v = some p → ¬ v < pa) (ht : TabR pa n ds l) (hpm : l[v.toNat]? = some pm) (h0 : 0 ≤ v) (h1 : v < (n : Int)) (hva : va = (n : Int)) (h2 : 0 ≤ pm.1) (h3 : ¬ pm.2 = -2) (h4 : pm.1 = b) : pm.2 < q ↔ thereQ D pa va ds v b q := by
  have hf := rthere_find ht hpm h0 h1 h2 h3
  have hv := ho _ hf
  constructor
  · intro h
    exact ⟨h0, by omega, .inr ⟨_, hf, .inl ⟨h4, h⟩⟩⟩
  · rintro ⟨_, _, h | ⟨p, hp, h⟩⟩
    · exact absurd h hv
    · rw [hf] at hp
      injection hp with hp
      subst hp
      rcases h with ⟨_, h⟩ | ⟨h, _⟩
      · exact h
      · exact absurd h4 h
theorem rthere_up (ho : ∀ p, findD ds v = some p → ¬ v < pa) (ht : TabR pa n ds l) (hpm : l[v.toNat]? = some pm) (h0 : 0 ≤ v) (h1 : v < (n : Int)) (hva : va = (n : Int)) (h2 : 0 ≤ pm.1) (h3 : ¬ pm.2 = -2) (h4 : ¬ pm.1 = b) : D pm.1 b ↔ thereQ D pa va ds v b q := by
  have hf := rthere_find ht hpm h0 h1 h2 h3
  have hv := ho _ hf
  constructor
  · intro h
    exact ⟨h0, by omega, .inr ⟨_, hf, .inr ⟨h4, h⟩⟩⟩
  · rintro ⟨_, _, h | ⟨p, hp, h⟩⟩
    · exact absurd h hv
    · rw [hf] at hp
      injection hp with hp
      subst hp
      rcases h with ⟨h, _⟩ | ⟨_, h⟩
      · exact absurd h h4
      · exact h
theorem rthere_out (ht : TabR pa n ds l) (hn : NonNeg ds) (hva : va = (n : Int)) (h : ¬ (0 ≤ v ∧ v < (n : Int) ∧ 0 ≤ (l.getD v.toNat (0, 0)).1)) : ¬ thereQ D pa va ds v b q := by
  by_cases hv : 0 ≤ v ∧ v < (n : Int)
  · have hl := ht.len
    exact rthere_no ht hn (get_getD (0, 0) (by omega)) hv.1 hv.2 (by omega)
  · exact there_out (by omega)
theorem find_par (ho : ∀ d, d ∈ ds → pa ≤ d.1) : ∀ p, findD ds v = some p → ¬ v < pa := by
  intro p hp
  by_cases hm : v ∈ ds.map (·.1)
  · obtain ⟨d, hd, rfl⟩ := List.mem_map.1 hm
    have := ho d hd
    omega
  · rw [findD_none hm] at hp; cases hp
def overD (bs : List SB) (a b : Int) : Prop := at2 (overL bs) a.toNat b.toNat = true
end
structure ReadsQ (D : Int → Int → Prop) (E : Int → Int) (R : FBlk → Prop) (pa va : Int) (fs : List FBlk) (k : Nat) (x : FBlk) : Prop where
  phis : ∀ (j : Nat) (p : FPhi), x.phis[j]? = some p → p.args.length = (srcs (bsOf fs) (k : Int)).length ∧
    ∀ (i : Nat) (a s : Int), p.args[i]? = some a → (srcs (bsOf fs) (k : Int))[i]? = some s → thereQ D pa va (defsF fs) a s (E s)
  insts : ∀ (j : Nat) (p : FIns), x.insts[j]? = some p → ∀ (i : Nat) (a : Int), p.args[i]? = some a → thereQ D pa va (defsF fs) a (k : Int) (j : Int)
  fin : R x → thereQ D pa va (defsF fs) x.v (k : Int) (E (k : Int))
def readsQ (D : Int → Int → Prop) (E : Int → Int) (R : FBlk → Prop) (pa va : Int) (fs : List FBlk) (k : Nat) : Prop := ∃ x, fs[k]? = some x ∧ ReadsQ D E R pa va fs k x
noncomputable instance (D : Int → Int → Prop) (E : Int → Int) (R : FBlk → Prop) (pa va : Int) (fs : List FBlk) (k : Nat) : Decidable (readsQ D E R pa va fs k) := Classical.propDecidable _
def endS (fs : List FBlk) (b : Int) : Int := match fs[b.toNat]? with
  | some x => (x.insts.length : Int)
  | none => 0
theorem endS_at {fs : List FBlk} {k : Nat} {x : FBlk} (h : fs[k]? = some x) : endS fs (k : Int) = (x.insts.length : Int) := by simp [endS, h]
def finS (x : FBlk) : Prop := x.e = 1 ∨ (x.e = 2 ∧ 0 ≤ x.v)
def finR (x : FBlk) : Prop := x.e = 1 ∨ (x.e = 2 ∧ x.v ≠ -1)
section
variable {D : Int → Int → Prop} {E : Int → Int} {R : FBlk → Prop} {pa va : Int} {fs : List FBlk} {k : Nat} {x : FBlk}
def PhiTo (D : Int → Int → Prop) (E : Int → Int) (pa va : Int) (fs : List FBlk) (k : Nat) (x : FBlk) (j : Nat) : Prop := ∀ (j' : Nat) (p : FPhi), j' < j → x.phis[j']? = some p → p.args.length = (srcs (bsOf fs) (k : Int)).length ∧
    ∀ (i : Nat) (a s : Int), p.args[i]? = some a → (srcs (bsOf fs) (k : Int))[i]? = some s → thereQ D pa va (defsF fs) a s (E s)
def ArgTo (D : Int → Int → Prop) (E : Int → Int) (pa va : Int) (fs : List FBlk) (k : Nat) (p : FPhi) (i : Nat) : Prop := ∀ (i' : Nat) (a s : Int), i' < i → p.args[i']? = some a → (srcs (bsOf fs) (k : Int))[i']? = some s → thereQ D pa va (defsF fs) a s (E s)
def InsTo (D : Int → Int → Prop) (pa va : Int) (fs : List FBlk) (k : Nat) (x : FBlk) (j : Nat) : Prop := ∀ (j' : Nat) (p : FIns), j' < j → x.insts[j']? = some p → ∀ (i : Nat) (a : Int), p.args[i]? = some a → thereQ D pa va (defsF fs) a (k : Int) (j' : Int)
def OpTo (D : Int → Int → Prop) (pa va : Int) (fs : List FBlk) (k j : Nat) (p : FIns) (i : Nat) : Prop := ∀ (i' : Nat) (a : Int), i' < i → p.args[i']? = some a → thereQ D pa va (defsF fs) a (k : Int) (j : Int)
theorem lt_succ_cases {P : Nat → Prop} {n : Nat} (h : ∀ i, i < n → P i) (hn : P n) : ∀ i, i < n + 1 → P i := fun i hi => by
  by_cases e : i = n
  · subst e; exact hn
  · exact h i (by omega)
theorem PhiTo.next {j : Nat} {p : FPhi} (h : PhiTo D E pa va fs k x j) (hp : x.phis[j]? = some p) (hl : p.args.length = (srcs (bsOf fs) (k : Int)).length) (ha : ArgTo D E pa va fs k p p.args.length) : PhiTo D E pa va fs k x (j + 1) := by
  intro j' p' hj hp'
  by_cases e : j' = j
  · subst e
    rw [hp] at hp'
    injection hp' with hp'
    subst hp'
    exact ⟨hl, fun i a s hi => ha i a s (List.getElem?_eq_some_iff.1 hi).1 hi⟩
  · exact h j' p' (by omega) hp'
theorem ArgTo.next {i : Nat} {p : FPhi} {a s : Int} (h : ArgTo D E pa va fs k p i) (hi : p.args[i]? = some a) (hs : (srcs (bsOf fs) (k : Int))[i]? = some s) (ht : thereQ D pa va (defsF fs) a s (E s)) : ArgTo D E pa va fs k p (i + 1) := by
  intro i' a' s' hlt h1 h2
  by_cases e : i' = i
  · subst e
    rw [hi] at h1; rw [hs] at h2
    injection h1 with h1; injection h2 with h2
    subst h1; subst h2
    exact ht
  · exact h i' a' s' (by omega) h1 h2
theorem InsTo.next {j : Nat} {p : FIns} (h : InsTo D pa va fs k x j) (hp : x.insts[j]? = some p) (ha : OpTo D pa va fs k j p p.args.length) : InsTo D pa va fs k x (j + 1) := by
  intro j' p' hj hp'
  by_cases e : j' = j
  · subst e
    rw [hp] at hp'
    injection hp' with hp'
    subst hp'
    exact fun i a hi => ha i a (List.getElem?_eq_some_iff.1 hi).1 hi
  · exact h j' p' (by omega) hp'
theorem OpTo.next {j i : Nat} {p : FIns} {a : Int} (h : OpTo D pa va fs k j p i) (hi : p.args[i]? = some a) (ht : thereQ D pa va (defsF fs) a (k : Int) (j : Int)) : OpTo D pa va fs k j p (i + 1) := by
  intro i' a' hlt h1
  by_cases e : i' = i
  · subst e
    rw [hi] at h1
    injection h1 with h1
    subst h1
    exact ht
  · exact h i' a' (by omega) h1
theorem reads_yes (hx : fs[k]? = some x) (h1 : PhiTo D E pa va fs k x x.phis.length) (h2 : InsTo D pa va fs k x x.insts.length) (h3 : R x → thereQ D pa va (defsF fs) x.v (k : Int) (E (k : Int))) : readsQ D E R pa va fs k :=
  ⟨x, hx, fun j p hp => h1 j p (List.getElem?_eq_some_iff.1 hp).1 hp, fun j p hp => h2 j p (List.getElem?_eq_some_iff.1 hp).1 hp, h3⟩
theorem reads_of (hx : fs[k]? = some x) (h : readsQ D E R pa va fs k) : ReadsQ D E R pa va fs k x := by
  obtain ⟨y, hy, h⟩ := h
  rw [hx] at hy
  injection hy with hy
  subst hy
  exact h
theorem reads_len (hx : fs[k]? = some x) {j : Nat} {p : FPhi} (hp : x.phis[j]? = some p) (hl : ¬ p.args.length = (srcs (bsOf fs) (k : Int)).length) : ¬ readsQ D E R pa va fs k := fun h => hl ((reads_of hx h).phis j p hp).1
theorem reads_arg (hx : fs[k]? = some x) {j i : Nat} {p : FPhi} {a s : Int} (hp : x.phis[j]? = some p) (hi : p.args[i]? = some a) (hs : (srcs (bsOf fs) (k : Int))[i]? = some s) (ht : ¬ thereQ D pa va (defsF fs) a s (E s)) : ¬ readsQ D E R pa va fs k := fun h => ht (((reads_of hx h).phis j p hp).2 i a s hi hs)
theorem reads_op (hx : fs[k]? = some x) {j i : Nat} {p : FIns} {a : Int} (hp : x.insts[j]? = some p) (hi : p.args[i]? = some a) (ht : ¬ thereQ D pa va (defsF fs) a (k : Int) (j : Int)) : ¬ readsQ D E R pa va fs k := fun h => ht ((reads_of hx h).insts j p hp i a hi)
end
end Go.Mor
namespace Go.Mor
open Go.RowKit
structure GoodQ (nm : ByteArray) (pa va : Int) (fs : List FBlk) : Prop where
  name : nameQ nm
  par : 0 ≤ pa ∧ pa ≤ 16 ∧ pa ≤ va
  pos : 0 < fs.length
  phis : ∀ x, fs[0]? = some x → x.phis.length = 0
  src : (srcs (bsOf fs) 0).length = 0
  all : (orderL (bsOf fs)).length = fs.length
  ends : ∀ x, x ∈ fs → endsQ (fs.length : Int) x
  vals : VQ pa va fs
  reads : ∀ k, k < fs.length → readsQ (Dm (tg (bsOf fs))) (fun _ => 20000) finR pa va fs k
noncomputable instance (nm : ByteArray) (pa va : Int) (fs : List FBlk) : Decidable (GoodQ nm pa va fs) := Classical.propDecidable _
noncomputable def validN (nm : ByteArray) (pa va : Int) (fs : List FBlk) : Int := if (sizeF fs : Int) > 20000 ∨ va > 20000 then 12 else if GoodQ nm pa va fs then 0 else 4
section
variable {nm : ByteArray} {pa va : Int} {fs : List FBlk}
theorem valid_12 (h : (sizeF fs : Int) > 20000 ∨ va > 20000) : (12 : Int) = validN nm pa va fs := by rw [validN, if_pos h]
theorem valid_4 (h : ¬ ((sizeF fs : Int) > 20000 ∨ va > 20000)) (hg : ¬ GoodQ nm pa va fs) : (4 : Int) = validN nm pa va fs := by rw [validN, if_neg h, if_neg hg]
theorem valid_0 (h : ¬ ((sizeF fs : Int) > 20000 ∨ va > 20000)) (hg : GoodQ nm pa va fs) : (0 : Int) = validN nm pa va fs := by rw [validN, if_neg h, if_pos hg]
end
section
variable {bs : List SB}
theorem all_walk : (orderL bs).length = bs.length ↔ ∀ i : Nat, i < bs.length → walkB bs (-1) (i : Int) = true := by
  rw [← cnt_end]
  unfold cntT
  have h := List.length_filter_eq_length_iff (p := fun i : Nat => walkB bs (-1) (i : Int)) (l := List.range bs.length)
  rw [List.length_range] at h
  rw [h]
  simp only [List.mem_range]
theorem all_place (hl : (orderL bs).length = bs.length) {b : Int} (h0 : 0 ≤ b) (h1 : b < (bs.length : Int)) : 0 ≤ plB bs b := by
  have hp : 0 < bs.length := by omega
  have := all_walk.1 hl b.toNat (by omega)
  rw [Int.toNat_of_nonneg h0] at this
  exact ((plB_plc hp).reach _).2 (walk_reach.1 this)
theorem stand_dm {up : Int → Int} {n : Nat} {f g : Int → Int} (h0 : 0 < bs.length) (hl : (orderL bs).length = bs.length) (hf : FinU bs up) (hn : FIN (kidsU bs up) n f g) {a b : Int} (ha : 0 ≤ a ∧ a < (bs.length : Int)) (hb : 0 ≤ b ∧ b < (bs.length : Int)) :
    standQ f g a b ↔ Dm (tg bs) a b := by
  have pa := all_place hl ha.1 ha.2
  have pb := all_place hl hb.1 hb.2
  have h00 : 0 ≤ plB bs 0 := by rw [(plB_plc h0).zero]; omega
  rw [standQ, FIN.stands (hf.tree h0) h00 (hf.hall h0) hn pa pb]
  exact ⟨hf.dm b a, hf.ok.anc (hf.prc b pb)⟩
theorem over_dm (h0 : 0 < bs.length) (hl : (orderL bs).length = bs.length) {a b : Int} (ha : 0 ≤ a ∧ a < (bs.length : Int)) (hb : 0 ≤ b ∧ b < (bs.length : Int)) : overD bs a b ↔ Dm (tg bs) a b := by
  have pb := ((plB_plc h0).reach _).1 (all_place hl hb.1 hb.2)
  unfold overD
  rw [at2_over (by omega) (by omega), Int.toNat_of_nonneg ha.1, Int.toNat_of_nonneg hb.1]
  exact ⟨fun h => h.2, fun h => ⟨pb, h⟩⟩
end
theorem defs_place {fs : List FBlk} {d : Int × Int × Int} (h : d ∈ defsF fs) : ∃ x, fs[d.2.1.toNat]? = some x ∧ d.2.2 < (x.insts.length : Int) := by
  unfold defsF defsTo at h
  rw [List.mem_flatMap] at h
  obtain ⟨x, hx, hd⟩ := h
  rw [List.take_length] at hx
  have hx1 : fs[x.2]? = some x.1 := List.mem_zipIdx_iff_getElem?.1 hx
  unfold blkDefs at hd
  rcases List.mem_append.1 hd with hd | hd
  · unfold phiDefs at hd
    obtain ⟨p, _, rfl⟩ := List.mem_map.1 hd
    refine ⟨x.1, by simpa using hx1, ?_⟩
    show (-1 : Int) < _
    omega
  · unfold insDefs at hd
    obtain ⟨p, hp, rfl⟩ := List.mem_map.1 hd
    have hp1 : x.1.insts[p.2]? = some p.1 := List.mem_zipIdx_iff_getElem?.1 (List.mem_filter.1 hp).1
    have := (List.getElem?_eq_some_iff.1 hp1).1
    refine ⟨x.1, by simpa using hx1, ?_⟩
    show ((p.2 : Nat) : Int) < _
    omega
theorem size_ins {fs : List FBlk} {k : Nat} {x : FBlk} (h : fs[k]? = some x) : x.insts.length ≤ sizeF fs := by
  have hk := (List.getElem?_eq_some_iff.1 h).1
  have key : ∀ n, k < n → n ≤ fs.length → x.insts.length ≤ sizeTo fs n := by
    intro n
    induction n with
    | zero => intro h1; omega
    | succ n ih =>
      intro h1 h2
      obtain ⟨y, hy⟩ := get_of (l := fs) (i := n) (by omega)
      rw [sizeTo_succ hy]
      by_cases e : k = n
      · subst e
        rw [h] at hy
        injection hy with hy
        subst hy
        omega
      · have := ih (by omega) (by omega); omega
  have := key fs.length hk (Nat.le_refl _)
  unfold sizeF
  omega
section
variable {D D' : Int → Int → Prop} {E E' : Int → Int} {R R' : FBlk → Prop} {pa va : Int} {fs : List FBlk}
structure Agree (D D' : Int → Int → Prop) (E E' : Int → Int) (fs : List FBlk) : Prop where
  dom : ∀ a b : Int, 0 ≤ a ∧ a < (fs.length : Int) → 0 ≤ b ∧ b < (fs.length : Int) → (D a b ↔ D' a b)
  fin : ∀ d, d ∈ defsF fs → (d.2.2 < E d.2.1 ↔ d.2.2 < E' d.2.1)
theorem Agree.symm (h : Agree D D' E E' fs) : Agree D' D E' E fs := ⟨fun a b ha hb => (h.dom a b ha hb).symm, fun d hd => (h.fin d hd).symm⟩
theorem Agree.there (h : Agree D D' E E' fs) {v b q q' : Int} (hb : 0 ≤ b ∧ b < (fs.length : Int)) (hq : (q = E b ∧ q' = E' b) ∨ q = q') (ht : thereQ D pa va (defsF fs) v b q) : thereQ D' pa va (defsF fs) v b q' := by
  obtain ⟨h1, h2, h3 | ⟨p, hp, h3⟩⟩ := ht
  · exact ⟨h1, h2, .inl h3⟩
  · refine ⟨h1, h2, .inr ⟨p, hp, ?_⟩⟩
    have hm : (v, p) ∈ defsF fs := by
      by_cases hm : v ∈ (defsF fs).map (·.1)
      · obtain ⟨p', h4, h5⟩ := findD_some hm
        rw [hp] at h4
        injection h4 with h4
        subst h4
        exact h5
      · rw [findD_none hm] at hp; cases hp
    have hr := defs_mem hm
    rcases h3 with ⟨h3, h4⟩ | ⟨h3, h4⟩
    · refine .inl ⟨h3, ?_⟩
      rcases hq with ⟨rfl, rfl⟩ | rfl
      · have := h.fin _ hm
        simp only [h3] at this
        exact this.1 h4
      · exact h4
    · exact .inr ⟨h3, (h.dom _ _ ⟨hr.1, hr.2.1⟩ hb).1 h4⟩
theorem Agree.reads (h : Agree D D' E E' fs) {k : Nat} {x : FBlk} (hk : k < fs.length) (hR : R' x → R x) (hr : ReadsQ D E R pa va fs k x) : ReadsQ D' E' R' pa va fs k x where
  phis j p hp := by
    obtain ⟨h1, h2⟩ := hr.phis j p hp
    refine ⟨h1, fun i a s ha hs => h.there ?_ (.inl ⟨rfl, rfl⟩) (h2 i a s ha hs)⟩
    have hi := (List.getElem?_eq_some_iff.1 hs).1
    obtain ⟨si, h3, h4⟩ := srcs_at hi
    rw [hs] at h3
    injection h3 with h3
    subst h3
    rw [bsOf_len] at h4
    omega
  insts j p hp i a ha := h.there (by omega) (.inr rfl) (hr.insts j p hp i a ha)
  fin hx := h.there (by omega) (.inl ⟨rfl, rfl⟩) (hr.fin (hR hx))
theorem Agree.readsQ (h : Agree D D' E E' fs) {k : Nat} (hR : ∀ x, fs[k]? = some x → R' x → R x) (hr : readsQ D E R pa va fs k) : readsQ D' E' R' pa va fs k := by
  obtain ⟨x, hx, hr⟩ := hr
  exact ⟨x, hx, h.reads (List.getElem?_eq_some_iff.1 hx).1 (hR x hx) hr⟩
end
section
variable {pa va : Int} {fs : List FBlk}
theorem agree_ssa {up : Int → Int} {n : Nat} {f g : Int → Int} (h0 : 0 < fs.length) (hl : (orderL (bsOf fs)).length = fs.length) (hf : FinU (bsOf fs) up) (hn : FIN (kidsU (bsOf fs) up) n f g) (hs : (sizeF fs : Int) ≤ 20000) :
    Agree (standQ f g) (Dm (tg (bsOf fs))) (endS fs) (fun _ => 20000) fs where
  dom a b ha hb := stand_dm (by rw [bsOf_len]; exact h0) (by rw [bsOf_len]; exact hl) hf hn (by rw [bsOf_len]; exact ha) (by rw [bsOf_len]; exact hb)
  fin d hd := by
    obtain ⟨x, hx, h1⟩ := defs_place hd
    have := size_ins hx
    have h2 : endS fs d.2.1 = (x.insts.length : Int) := by simp [endS, hx]
    rw [h2]
    constructor <;> intro <;> omega
theorem agree_ref (h0 : 0 < fs.length) (hl : (orderL (bsOf fs)).length = fs.length) : Agree (overD (bsOf fs)) (Dm (tg (bsOf fs))) (fun _ => 20000) (fun _ => 20000) fs where
  dom a b ha hb := over_dm (by rw [bsOf_len]; exact h0) (by rw [bsOf_len]; exact hl) (by rw [bsOf_len]; exact ha) (by rw [bsOf_len]; exact hb)
  fin d hd := Iff.rfl
theorem fin_sr {N : Int} {x : FBlk} (h : endsS N x) : finR x ↔ finS x := by
  unfold finR finS
  have := h.2
  omega
theorem ends_sr {nm : ByteArray} (h : GoodQ nm pa va fs) : ∀ x, x ∈ fs → endsS (fs.length : Int) x := by
  intro x hx
  refine ⟨h.ends x hx, fun he => ?_⟩
  obtain ⟨k, hk⟩ := List.mem_iff_getElem?.1 hx
  obtain ⟨y, hy, hr⟩ := h.reads k (List.getElem?_eq_some_iff.1 hk).1
  rw [hk] at hy
  injection hy with hy
  subst hy
  by_cases hv : x.v = -1
  · omega
  · have := (hr.fin (.inr ⟨he, hv⟩)).1
    omega
end
end Go.Mor
namespace Go.Mor
theorem ends_next {fs : List FBlk} {Q : FBlk → Prop} {m : Nat} {x : FBlk} (h : ∀ (i : Nat) (x : FBlk), i < m → fs[i]? = some x → Q x) (hx : fs[m]? = some x) (hq : Q x) : ∀ (i : Nat) (x : FBlk), i < m + 1 → fs[i]? = some x → Q x := by
  intro i y hi hy
  by_cases e : i = m
  · subst e
    rw [hx] at hy
    injection hy with hy
    exact hy ▸ hq
  · exact h i y (by omega) hy
end Go.Mor
namespace Go.Mor
theorem walk_step {Bk Bv B : Bool} {Wk : Nat → Bool} {k : Nat} (h : Bk = true ↔ Bv = true ∧ ∀ i : Nat, i < k → Wk i = true) (hB : B = true ↔ Bk = true) : (B && Wk k) = true ↔ Bv = true ∧ ∀ i : Nat, i < k + 1 → Wk i = true := by
  rw [Bool.and_eq_true, hB, h]
  constructor
  · rintro ⟨⟨h1, h2⟩, h3⟩
    exact ⟨h1, lt_succ_cases h2 h3⟩
  · rintro ⟨h1, h2⟩
    exact ⟨⟨h1, fun i hi => h2 i (by omega)⟩, h2 k (by omega)⟩
end Go.Mor
namespace Go.Mor
open Go.RowKit
def FPhi.e0 (p : FPhi) : FPhi := ⟨p.dst, none, 0, p.args⟩
def FIns.e0 (p : FIns) : FIns := ⟨p.op, p.dst, p.n, p.name, none, 0, p.args⟩
def FBlk.e0 (x : FBlk) : FBlk := ⟨none, 0, x.phis.map FPhi.e0, none, 0, x.insts.map FIns.e0, x.e, x.v, x.a, x.b⟩
def AlikeF (fs gs : List FBlk) : Prop := fs.map FBlk.e0 = gs.map FBlk.e0
def endOf (x : FBlk) : Int × Int × Int := (x.e, x.a, x.b)
theorem tg_ends {fs gs : List FBlk} (h : fs.map endOf = gs.map endOf) : tg (bsOf fs) = tg (bsOf gs) := by
  have hl : fs.length = gs.length := by simpa using congrArg List.length h
  funext b
  unfold tg
  split
  · have hk : ((bsOf fs)[b.toNat]?).map (fun x : SB => (x.e, x.a, x.b)) = ((bsOf gs)[b.toNat]?).map (fun x : SB => (x.e, x.a, x.b)) := by
      have h1 := congrArg (fun l : List (Int × Int × Int) => l[b.toNat]?) h
      simp only [List.getElem?_map] at h1
      unfold bsOf
      simp only [List.getElem?_map, Option.map_map]
      exact h1
    revert hk
    cases h1 : (bsOf fs)[b.toNat]? <;> cases h2 : (bsOf gs)[b.toNat]? <;> simp
    rename_i x y
    intro e1 e2 e3
    unfold tgx
    rw [e1, e2, e3, bsOf_len, bsOf_len, hl]
  · rfl
theorem srcs_ends {fs gs : List FBlk} (h : fs.map endOf = gs.map endOf) : srcs (bsOf fs) = srcs (bsOf gs) := by
  have hl : fs.length = gs.length := by simpa using congrArg List.length h
  funext b
  unfold srcs srcsTo
  rw [tg_ends h, bsOf_len, bsOf_len, hl]
theorem order_ends {fs gs : List FBlk} (h : fs.map endOf = gs.map endOf) : (orderL (bsOf fs)).length = fs.length ↔ (orderL (bsOf gs)).length = gs.length := by
  have hl : fs.length = gs.length := by simpa using congrArg List.length h
  have h1 := all_walk (bs := bsOf fs)
  have h2 := all_walk (bs := bsOf gs)
  rw [bsOf_len] at h1 h2
  rw [h1, h2, hl]
  unfold walkB
  rw [tg_ends h, bsOf_len, bsOf_len, hl]
theorem e0_ends {fs gs : List FBlk} (h : AlikeF fs gs) : fs.map endOf = gs.map endOf := by
  have : endOf = endOf ∘ FBlk.e0 := rfl
  rw [this, ← List.map_map, ← List.map_map, h]
theorem e0_get {fs gs : List FBlk} (h : AlikeF fs gs) {k : Nat} {x : FBlk} (hx : fs[k]? = some x) : ∃ y, gs[k]? = some y ∧ x.e0 = y.e0 := by
  have h1 := congrArg (fun l : List FBlk => l[k]?) h
  simp only [List.getElem?_map, hx, Option.map_some] at h1
  cases hy : gs[k]? with
  | none => rw [hy] at h1; simp at h1
  | some y => rw [hy] at h1; simp at h1; exact ⟨y, rfl, h1⟩
theorem AlikeF.symm {fs gs : List FBlk} (h : AlikeF fs gs) : AlikeF gs fs := Eq.symm h
theorem AlikeF.len {fs gs : List FBlk} (h : AlikeF fs gs) : fs.length = gs.length := by simpa using congrArg List.length h
section
variable {x y : FBlk}
theorem e0_e (h : x.e0 = y.e0) : x.e = y.e := show x.e0.e = y.e0.e by rw [h]
theorem e0_v (h : x.e0 = y.e0) : x.v = y.v := show x.e0.v = y.e0.v by rw [h]
theorem e0_a (h : x.e0 = y.e0) : x.a = y.a := show x.e0.a = y.e0.a by rw [h]
theorem e0_b (h : x.e0 = y.e0) : x.b = y.b := show x.e0.b = y.e0.b by rw [h]
theorem e0_phis (h : x.e0 = y.e0) : x.phis.map FPhi.e0 = y.phis.map FPhi.e0 := show x.e0.phis = y.e0.phis by rw [h]
theorem e0_insts (h : x.e0 = y.e0) : x.insts.map FIns.e0 = y.insts.map FIns.e0 := show x.e0.insts = y.e0.insts by rw [h]
theorem e0_phi (h : x.e0 = y.e0) {j : Nat} {p : FPhi} (hp : x.phis[j]? = some p) : ∃ q, y.phis[j]? = some q ∧ p.dst = q.dst ∧ p.args = q.args := by
  have h1 := congrArg (fun l : List FPhi => l[j]?) (e0_phis h)
  simp only [List.getElem?_map, hp, Option.map_some] at h1
  cases hy : y.phis[j]? with
  | none => rw [hy] at h1; simp at h1
  | some q => rw [hy] at h1; simp [FPhi.e0] at h1; exact ⟨q, rfl, h1⟩
theorem e0_inst (h : x.e0 = y.e0) {j : Nat} {p : FIns} (hp : x.insts[j]? = some p) : ∃ q, y.insts[j]? = some q ∧ p.op = q.op ∧ p.dst = q.dst ∧ p.n = q.n ∧ p.name = q.name ∧ p.args = q.args := by
  have h1 := congrArg (fun l : List FIns => l[j]?) (e0_insts h)
  simp only [List.getElem?_map, hp, Option.map_some] at h1
  cases hy : y.insts[j]? with
  | none => rw [hy] at h1; simp at h1
  | some q => rw [hy] at h1; simp [FIns.e0] at h1; exact ⟨q, rfl, h1⟩
theorem blkDefs_e0 (b : Int) (x : FBlk) : blkDefs b x.e0 = blkDefs b x := by
  unfold blkDefs phiDefs insDefs
  simp [FBlk.e0, FPhi.e0, FIns.e0, List.zipIdx_map, List.filter_map, Function.comp_def]
  rfl
theorem defsF_e0 (fs : List FBlk) : defsF (fs.map FBlk.e0) = defsF fs := by
  unfold defsF defsTo
  rw [List.length_map, List.take_of_length_le (by simp), List.take_of_length_le (by simp)]
  simp [List.zipIdx_map, List.flatMap_map, blkDefs_e0]
end
theorem shapeQ_of {p q : FIns} (h1 : p.op = q.op) (h2 : p.dst = q.dst) (h3 : p.n = q.n) (h4 : p.name = q.name) (h5 : p.args.length = q.args.length) (h : shapeQ p) : shapeQ q := by
  unfold shapeQ at h ⊢
  rw [← h1, ← h2, ← h3, ← h4, ← h5]
  exact h
theorem sizeF_e0 (fs : List FBlk) : sizeF (fs.map FBlk.e0) = sizeF fs := by
  unfold sizeF sizeTo
  rw [List.length_map, List.take_of_length_le (by simp), List.take_of_length_le (by simp)]
  simp [FBlk.e0, Function.comp_def]
theorem good_alike {nm : ByteArray} {pa va : Int} {fs gs : List FBlk} (h : AlikeF fs gs) (hg : GoodQ nm pa va fs) : GoodQ nm pa va gs := by
  have he := e0_ends h
  have hd : defsF fs = defsF gs := by rw [← defsF_e0 fs, ← defsF_e0 gs, h]
  have hl := h.len
  refine ⟨hg.name, hg.par, by have := hg.pos; omega, fun x hx => ?_, ?_, (order_ends he).1 hg.all, fun x hx => ?_, ⟨fun x hx p hp => ?_, hd ▸ hg.vals.2⟩, fun k hk => ?_⟩
  · obtain ⟨y, hy, e⟩ := e0_get h.symm hx
    have h1 := congrArg List.length (e0_phis e)
    simp at h1
    rw [h1]; exact hg.phis y hy
  · rw [← srcs_ends he]; exact hg.src
  · obtain ⟨k, hk⟩ := List.mem_iff_getElem?.1 hx
    obtain ⟨y, hy, e⟩ := e0_get h.symm hk
    have h1 := hg.ends y (List.mem_of_getElem? hy)
    unfold endsQ at h1 ⊢
    have e1 : x.e = y.e := e0_e e
    have e2 : x.v = y.v := e0_v e
    have e3 : x.a = y.a := e0_a e
    have e4 : x.b = y.b := e0_b e
    rw [e1, e2, e3, e4, ← hl]; exact h1
  · obtain ⟨k, hk⟩ := List.mem_iff_getElem?.1 hx
    obtain ⟨y, hy, e⟩ := e0_get h.symm hk
    obtain ⟨j, hj⟩ := List.mem_iff_getElem?.1 hp
    obtain ⟨q, hq, e1, e2, e3, e4, e5⟩ := e0_inst e hj
    exact shapeQ_of e1.symm e2.symm e3.symm e4.symm (by rw [e5]) (hg.vals.1 y (List.mem_of_getElem? hy) q (List.mem_of_getElem? hq))
  · obtain ⟨x, hx, hr⟩ := hg.reads k (by omega)
    obtain ⟨y, hy, e⟩ := e0_get h hx
    have ee : x.e = y.e := e0_e e
    have ev : x.v = y.v := e0_v e
    refine ⟨y, hy, ⟨fun j p hp => ?_, fun j p hp i a ha => ?_, fun hR => ?_⟩⟩
    · obtain ⟨q, hq, e1, e2⟩ := e0_phi e.symm hp
      have := hr.phis j q hq
      rw [← srcs_ends he, ← tg_ends he, ← hd, e2]
      exact this
    · obtain ⟨q, hq, e1, e2, e3, e4, e5⟩ := e0_inst e.symm hp
      rw [e5] at ha
      have := hr.insts j q hq i a ha
      rw [← tg_ends he, ← hd]
      exact this
    · rw [← tg_ends he, ← hd, ← ev]
      refine hr.fin ?_
      unfold finR at hR ⊢
      rw [ee, ev]; exact hR
theorem valid_alike {nm : ByteArray} {pa va : Int} {fs gs : List FBlk} (h : AlikeF fs gs) : validN nm pa va fs = validN nm pa va gs := by
  unfold validN
  have hs : sizeF fs = sizeF gs := by rw [← sizeF_e0 fs, ← sizeF_e0 gs, h]
  rw [hs]
  have : GoodQ nm pa va fs ↔ GoodQ nm pa va gs := ⟨good_alike h, good_alike h.symm⟩
  simp only [this]
end Go.Mor
namespace Go.Mor
open Go.RowKit
theorem mem_zipIdx {α : Type} {l : List α} {x : α} {i : Nat} : (x, i) ∈ l.zipIdx ↔ l[i]? = some x := by
  rw [List.mem_zipIdx_iff_getElem?]
def mksOf (x : FBlk) : List Int := x.phis.map (fun p => p.dst) ++ (x.insts.filter (fun i => decide (makesQ i.op))).map (fun i => i.dst)
theorem blkDefs_fst (b : Int) (x : FBlk) : (blkDefs b x).map (·.1) = mksOf x := by
  unfold blkDefs phiDefs insDefs mksOf
  have h : ∀ (l : List FIns) (n : Nat), ((l.zipIdx n).filter (fun x => decide (makesQ x.1.op))).map (fun x => x.1.dst) = (l.filter (fun i => decide (makesQ i.op))).map (fun i => i.dst) := by
    intro l
    induction l with
    | nil => intro n; rfl
    | cons a l ih =>
      intro n
      rw [List.zipIdx_cons, List.filter_cons, List.filter_cons]
      by_cases hm : makesQ a.op <;> simp [hm, ih (n + 1)]
  have := h x.insts 0
  simp only [List.map_append, List.map_map]
  congr 1
theorem defsF_fst (fs : List FBlk) : (defsF fs).map (·.1) = fs.flatMap mksOf := by
  unfold defsF defsTo
  rw [List.take_of_length_le (Nat.le_refl _), List.map_flatMap]
  have h : ∀ (l : List FBlk) (n : Nat), (l.zipIdx n).flatMap (fun x => (blkDefs (x.2 : Int) x.1).map (·.1)) = l.flatMap mksOf := by
    intro l
    induction l with
    | nil => intro n; rfl
    | cons a l ih => intro n; rw [List.zipIdx_cons, List.flatMap_cons, List.flatMap_cons, ih (n + 1), blkDefs_fst]
  exact h fs 0
theorem mem_defsF {fs : List FBlk} {v b q : Int} : (v, b, q) ∈ defsF fs ↔ ∃ (k : Nat) (x : FBlk), fs[k]? = some x ∧ b = (k : Int) ∧
    ((q = -1 ∧ ∃ p, p ∈ x.phis ∧ p.dst = v) ∨ ∃ (j : Nat) (i : FIns), x.insts[j]? = some i ∧ makesQ i.op ∧ i.dst = v ∧ q = (j : Int)) := by
  unfold defsF defsTo
  rw [List.take_of_length_le (Nat.le_refl _), List.mem_flatMap]
  constructor
  · rintro ⟨⟨x, k⟩, hx, hd⟩
    have hx' := mem_zipIdx.1 hx
    refine ⟨k, x, hx', ?_⟩
    unfold blkDefs phiDefs insDefs at hd
    rcases List.mem_append.1 hd with hd | hd
    · obtain ⟨p, hp, he⟩ := List.mem_map.1 hd
      simp at he
      exact ⟨he.2.1.symm, .inl ⟨he.2.2.symm, p, hp, he.1⟩⟩
    · obtain ⟨⟨i, j⟩, hp, he⟩ := List.mem_map.1 hd
      obtain ⟨h1, h2⟩ := List.mem_filter.1 hp
      simp at he h2
      exact ⟨he.2.1.symm, .inr ⟨j, i, mem_zipIdx.1 h1, h2, he.1, he.2.2.symm⟩⟩
  · rintro ⟨k, x, hx, rfl, h⟩
    refine ⟨(x, k), mem_zipIdx.2 hx, ?_⟩
    unfold blkDefs phiDefs insDefs
    rcases h with ⟨rfl, p, hp, rfl⟩ | ⟨j, i, hi, hm, rfl, rfl⟩
    · exact List.mem_append_left _ (List.mem_map.2 ⟨p, hp, rfl⟩)
    · exact List.mem_append_right _ (List.mem_map.2 ⟨(i, j), List.mem_filter.2 ⟨mem_zipIdx.2 hi, by simp [hm]⟩, rfl⟩)
theorem findD_iff {ds : Dfs} (hn : (ds.map (·.1)).Nodup) {v : Int} {p : Int × Int} : findD ds v = some p ↔ (v, p) ∈ ds := by
  constructor
  · intro h
    by_cases hm : v ∈ ds.map (·.1)
    · obtain ⟨q, h1, h2⟩ := findD_some hm
      rw [h1] at h; injection h with h; subst h; exact h2
    · rw [findD_none hm] at h; cases h
  · intro h
    obtain ⟨q, h1, h2⟩ := findD_some (List.mem_map.2 ⟨(v, p), h, rfl⟩)
    have : q = p := by
      have hp := List.pairwise_map.1 hn
      rcases Classical.em (((v, q) : Int × Int × Int) = (v, p)) with e | e
      · injection e
      · exfalso
        obtain ⟨i, hi⟩ := List.mem_iff_getElem?.1 h
        obtain ⟨j, hj⟩ := List.mem_iff_getElem?.1 h2
        exact pair_get (R := fun a b : Int × Int × Int => a.1 ≠ b.1) (fun _ _ h e => h e.symm) hp hi hj (fun e2 => e (by subst e2; rw [hi] at hj; injection hj with hj; exact hj.symm)) rfl
    rw [h1, this]
theorem thereQ_iff {D : Int → Int → Prop} {pa va : Int} {ds : Dfs} (hn : (ds.map (·.1)).Nodup) {v b q : Int} : thereQ D pa va ds v b q ↔ 0 ≤ v ∧ v < va ∧ (v < pa ∨ ∃ c k, (v, c, k) ∈ ds ∧ ((c = b ∧ k < q) ∨ (c ≠ b ∧ D c b))) := by
  unfold thereQ
  constructor
  · rintro ⟨h1, h2, h3 | ⟨p, hp, h3⟩⟩
    · exact ⟨h1, h2, .inl h3⟩
    · exact ⟨h1, h2, .inr ⟨p.1, p.2, (findD_iff hn).1 hp, h3⟩⟩
  · rintro ⟨h1, h2, h3 | ⟨c, k, hp, h3⟩⟩
    · exact ⟨h1, h2, .inl h3⟩
    · exact ⟨h1, h2, .inr ⟨(c, k), (findD_iff hn).2 hp, h3⟩⟩
section
variable {α : Type} {f : α → Bool} {l : List α}
def cntF (f : α → Bool) (l : List α) (j : Nat) : Nat := ((l.take j).filter f).length
theorem filter_at {j : Nat} {x : α} (hx : l[j]? = some x) (hf : f x = true) : (l.filter f)[cntF f l j]? = some x := by
  obtain ⟨hj, he⟩ := List.getElem?_eq_some_iff.1 hx
  have e : l.filter f = (l.take j).filter f ++ (x :: (l.drop (j + 1)).filter f) := by
    conv => lhs; rw [← List.take_append_drop j l]
    rw [List.filter_append, List.drop_eq_getElem_cons hj, he, List.filter_cons, if_pos hf]
  unfold cntF
  rw [e, List.getElem?_append_right (Nat.le_refl _), Nat.sub_self]
  rfl
theorem cntF_le (j : Nat) : cntF f l j ≤ j := by
  unfold cntF
  exact Nat.le_trans (List.length_filter_le _ _) (by simp; omega)
theorem cnt_mono {i j : Nat} (h : i ≤ j) : cntF f l i ≤ cntF f l j := by
  unfold cntF
  obtain ⟨d, rfl⟩ := Nat.le.dest h
  rw [List.take_add, List.filter_append, List.length_append]
  omega
theorem cnt_succ {j : Nat} {x : α} (hx : l[j]? = some x) (hf : f x = true) : cntF f l (j + 1) = cntF f l j + 1 := by
  obtain ⟨hj, he⟩ := List.getElem?_eq_some_iff.1 hx
  unfold cntF
  rw [List.take_succ_eq_append_getElem hj, List.filter_append, List.length_append, he]
  simp [hf]
theorem cnt_lt {i j : Nat} {x : α} (hx : l[i]? = some x) (hf : f x = true) (h : i < j) : cntF f l i < cntF f l j := by
  have h1 := cnt_succ hx hf
  have h2 := cnt_mono (f := f) (l := l) (i := i + 1) (j := j) h
  omega
theorem filter_from {m : Nat} {x : α} (hx : (l.filter f)[m]? = some x) : ∃ j, l[j]? = some x ∧ f x = true ∧ cntF f l j = m := by
  induction l generalizing m with
  | nil => simp at hx
  | cons a l ih =>
    rw [List.filter_cons] at hx
    by_cases ha : f a = true
    · rw [if_pos ha] at hx
      cases m with
      | zero => simp at hx; subst hx; exact ⟨0, rfl, ha, rfl⟩
      | succ m =>
        simp at hx
        obtain ⟨j, h1, h2, h3⟩ := ih hx
        refine ⟨j + 1, by simpa using h1, h2, ?_⟩
        unfold cntF at h3 ⊢
        rw [List.take_succ_cons, List.filter_cons, if_pos ha, List.length_cons, h3]
    · rw [if_neg ha] at hx
      obtain ⟨j, h1, h2, h3⟩ := ih hx
      refine ⟨j + 1, by simpa using h1, h2, ?_⟩
      unfold cntF at h3 ⊢
      rw [List.take_succ_cons, List.filter_cons, if_neg ha, h3]
end
def pureQ (op : Int) : Prop := op = 1 ∨ op = 12 ∨ op = 6 ∨ op = 7 ∨ (16 ≤ op ∧ op ≠ 20 ∧ op ≠ 21)
instance (op : Int) : Decidable (pureQ op) := by unfold pureQ; infer_instance
theorem pure_makes {op : Int} (h : pureQ op) : makesQ op := by unfold pureQ at h; unfold makesQ; omega
inductive Rd (fs : List FBlk) : Int → Prop
  | inst {x : FBlk} {i : FIns} {v : Int} : x ∈ fs → i ∈ x.insts → ¬ pureQ i.op → v ∈ i.args → 0 ≤ v → Rd fs v
  | fin {x : FBlk} : x ∈ fs → (x.e = 1 ∨ x.e = 2) → 0 ≤ x.v → Rd fs x.v
  | phi {x : FBlk} {p : FPhi} {v : Int} : x ∈ fs → p ∈ x.phis → Rd fs p.dst → v ∈ p.args → 0 ≤ v → Rd fs v
  | pure {x : FBlk} {i : FIns} {v : Int} : x ∈ fs → i ∈ x.insts → pureQ i.op → Rd fs i.dst → v ∈ i.args → 0 ≤ v → Rd fs v
noncomputable instance (fs : List FBlk) (v : Int) : Decidable (Rd fs v) := Classical.propDecidable _
noncomputable def keepP (fs : List FBlk) (p : FPhi) : Bool := decide (Rd fs p.dst)
noncomputable def keepI (fs : List FBlk) (i : FIns) : Bool := decide (¬ (pureQ i.op ∧ ¬ Rd fs i.dst))
noncomputable def deadB (fs : List FBlk) (x : FBlk) : FBlk := { x with phis := x.phis.filter (keepP fs), insts := x.insts.filter (keepI fs) }
noncomputable def deadF (fs : List FBlk) : List FBlk := fs.map (deadB fs)
section
variable {fs : List FBlk} {nm : ByteArray} {pa va : Int}
theorem deadF_get {k : Nat} {y : FBlk} : (deadF fs)[k]? = some y ↔ ∃ x, fs[k]? = some x ∧ y = deadB fs x := by
  unfold deadF
  rw [List.getElem?_map, Option.map_eq_some_iff]
  exact ⟨fun ⟨x, h, e⟩ => ⟨x, h, e.symm⟩, fun ⟨x, h, e⟩ => ⟨x, h, e.symm⟩⟩
theorem deadF_mem {y : FBlk} : y ∈ deadF fs ↔ ∃ x, x ∈ fs ∧ y = deadB fs x := by
  unfold deadF
  rw [List.mem_map]
  exact ⟨fun ⟨x, h, e⟩ => ⟨x, h, e.symm⟩, fun ⟨x, h, e⟩ => ⟨x, h, e.symm⟩⟩
theorem deadF_ends : (deadF fs).map endOf = fs.map endOf := by
  unfold deadF
  rw [List.map_map]
  rfl
theorem keepI_of {i : FIns} : keepI fs i = true ↔ (pureQ i.op → Rd fs i.dst) := by
  unfold keepI
  rw [decide_eq_true_eq]
  constructor
  · intro h hp; exact Classical.byContradiction fun hn => h ⟨hp, hn⟩
  · rintro h ⟨h1, h2⟩; exact h2 (h h1)
theorem left_inst {x : FBlk} {i : FIns} {v : Int} (hx : x ∈ fs) (hi : i ∈ x.insts) (hk : keepI fs i = true) (hv : v ∈ i.args) (h0 : 0 ≤ v) : Rd fs v := by
  by_cases hp : pureQ i.op
  · exact .pure hx hi hp (keepI_of.1 hk hp) hv h0
  · exact .inst hx hi hp hv h0
theorem left_phi {x : FBlk} {p : FPhi} {v : Int} (hx : x ∈ fs) (hi : p ∈ x.phis) (hk : keepP fs p = true) (hv : v ∈ p.args) (h0 : 0 ≤ v) : Rd fs v :=
  .phi hx hi (of_decide_eq_true hk) hv h0
theorem sub_flat {α β : Type} {f g : α → List β} : ∀ {l : List α}, (∀ x, x ∈ l → (f x).Sublist (g x)) → (l.flatMap f).Sublist (l.flatMap g)
  | [], _ => List.Sublist.refl _
  | a :: l, h => by
    rw [List.flatMap_cons, List.flatMap_cons]
    exact (h a (List.mem_cons_self ..)).append (sub_flat fun x hx => h x (List.mem_cons_of_mem _ hx))
theorem dead_mks (x : FBlk) : (mksOf (deadB fs x)).Sublist (mksOf x) := by
  unfold mksOf deadB
  refine List.Sublist.append (List.filter_sublist.map _) ?_
  exact (List.filter_sublist.filter _).map _
theorem dead_once (h : OnceQ pa va (defsF fs)) : OnceQ pa va (defsF (deadF fs)) := by
  have hs : ((defsF (deadF fs)).map (·.1)).Sublist ((defsF fs).map (·.1)) := by
    rw [defsF_fst, defsF_fst]
    unfold deadF
    rw [List.flatMap_map]
    exact sub_flat fun x _ => dead_mks x
  refine ⟨fun d hd => ?_, h.2.sublist hs⟩
  have := hs.subset (List.mem_map.2 ⟨d, hd, rfl⟩)
  obtain ⟨e, he, h1⟩ := List.mem_map.1 this
  rw [← h1]
  exact h.1 e he
theorem dead_def {v : Int} {b q : Int} (hv : Rd fs v) (h : (v, b, q) ∈ defsF fs) : ∃ q', (v, b, q') ∈ defsF (deadF fs) ∧ q' ≤ q ∧
    ∀ (k : Nat) (x : FBlk) (j : Nat), fs[k]? = some x → b = (k : Int) → q < (j : Int) → q' < (cntF (keepI fs) x.insts j : Int) := by
  obtain ⟨k, x, hx, rfl, h | ⟨j, i, hi, hm, rfl, rfl⟩⟩ := mem_defsF.1 h
  · obtain ⟨rfl, p, hp, rfl⟩ := h
    refine ⟨-1, mem_defsF.2 ⟨k, deadB fs x, deadF_get.2 ⟨x, hx, rfl⟩, rfl, .inl ⟨rfl, p, List.mem_filter.2 ⟨hp, decide_eq_true hv⟩, rfl⟩⟩, by omega, fun k' x' j' _ _ _ => by omega⟩
  · have hk : keepI fs i = true := keepI_of.2 fun _ => hv
    refine ⟨(cntF (keepI fs) x.insts j : Nat), mem_defsF.2 ⟨k, deadB fs x, deadF_get.2 ⟨x, hx, rfl⟩, rfl, .inr ⟨_, i, filter_at hi hk, hm, rfl, rfl⟩⟩, ?_, fun k' x' j' hx' e hj => ?_⟩
    · have := cntF_le (f := keepI fs) (l := x.insts) j; omega
    · have : k' = k := by omega
      subst this
      rw [hx] at hx'; injection hx' with hx'; subst hx'
      have := cnt_lt hi hk (j := j') (by omega)
      omega
theorem dead_there {D : Int → Int → Prop} (ho : OnceQ pa va (defsF fs)) {v b q q' : Int} (hv : Rd fs v) (hq : (∃ (k : Nat) (x : FBlk) (j : Nat), fs[k]? = some x ∧ b = (k : Int) ∧ q = (j : Int) ∧ q' = (cntF (keepI fs) x.insts j : Int)) ∨ q ≤ q')
    (h : thereQ D pa va (defsF fs) v b q) : thereQ D pa va (defsF (deadF fs)) v b q' := by
  obtain ⟨h1, h2, h3⟩ := (thereQ_iff ho.2).1 h
  refine (thereQ_iff (dead_once ho).2).2 ⟨h1, h2, h3.imp id ?_⟩
  rintro ⟨c, k, hd, h4⟩
  obtain ⟨k', hd', hle, hlt⟩ := dead_def hv hd
  refine ⟨c, k', hd', h4.imp (fun ⟨e, hk⟩ => ⟨e, ?_⟩) id⟩
  rcases hq with ⟨kb, x, j, hx, rfl, rfl, rfl⟩ | hq
  · exact hlt kb x j hx e hk
  · omega
theorem dead_good (h : GoodQ nm pa va fs) : GoodQ nm pa va (deadF fs) := by
  have he := deadF_ends (fs := fs)
  have hl : (deadF fs).length = fs.length := by unfold deadF; simp
  have ho := h.vals.2
  refine ⟨h.name, h.par, by rw [hl]; exact h.pos, fun y hy => ?_, ?_, (order_ends he).2 h.all, fun y hy => ?_, ⟨fun y hy p hp => ?_, dead_once ho⟩, fun k hk => ?_⟩
  · obtain ⟨x, hx, rfl⟩ := deadF_get.1 hy
    have := h.phis x hx
    have h2 := List.length_filter_le (keepP fs) x.phis
    show (x.phis.filter (keepP fs)).length = 0
    omega
  · rw [srcs_ends he]; exact h.src
  · obtain ⟨x, hx, rfl⟩ := deadF_mem.1 hy
    rw [hl]; exact h.ends x hx
  · obtain ⟨x, hx, rfl⟩ := deadF_mem.1 hy
    exact h.vals.1 x hx p (List.mem_filter.1 hp).1
  · obtain ⟨x, hx, hr⟩ := h.reads k (by omega)
    have hxm := List.mem_of_getElem? hx
    refine ⟨deadB fs x, deadF_get.2 ⟨x, hx, rfl⟩, ⟨fun j p hp => ?_, fun m p hp i a ha => ?_, fun hR => ?_⟩⟩
    · have hp' : (x.phis.filter (keepP fs))[j]? = some p := hp
      obtain ⟨j', h1, h2, _⟩ := filter_from hp'
      obtain ⟨h3, h4⟩ := hr.phis j' p h1
      rw [srcs_ends he, tg_ends he]
      refine ⟨h3, fun i a s ha hs => ?_⟩
      have ht := h4 i a s ha hs
      exact dead_there ho (left_phi hxm (List.mem_of_getElem? h1) h2 (List.mem_of_getElem? ha) ht.1) (.inr (Int.le_refl _)) ht
    · have hp' : (x.insts.filter (keepI fs))[m]? = some p := hp
      obtain ⟨j', h1, h2, h3⟩ := filter_from hp'
      have ht := hr.insts j' p h1 i a ha
      rw [tg_ends he]
      exact dead_there ho (left_inst hxm (List.mem_of_getElem? h1) h2 (List.mem_of_getElem? ha) ht.1) (.inl ⟨k, x, j', hx, rfl, rfl, by rw [h3]⟩) ht
    · have hR' : finR x := hR
      have ht := hr.fin hR'
      rw [tg_ends he]
      have hf : Rd fs x.v := .fin hxm (by unfold finR at hR'; exact hR'.imp id (fun h => h.1)) ht.1
      exact dead_there ho hf (.inr (Int.le_refl _)) ht
theorem dead_size : sizeF (deadF fs) ≤ sizeF fs := by
  unfold sizeF sizeTo
  rw [List.take_of_length_le (Nat.le_refl _), List.take_of_length_le (Nat.le_refl _)]
  unfold deadF
  rw [List.length_map, List.map_map]
  have : ∀ l : List FBlk, (l.map ((fun x => x.phis.length + x.insts.length) ∘ deadB fs)).sum ≤ (l.map (fun x => x.phis.length + x.insts.length)).sum := by
    intro l
    induction l with
    | nil => simp
    | cons a l ih =>
      have h1 := List.length_filter_le (keepP fs) a.phis
      have h2 := List.length_filter_le (keepI fs) a.insts
      simp only [List.map_cons, List.sum_cons, Function.comp_apply]
      have h3 : (deadB fs a).phis.length ≤ a.phis.length := h1
      have h4 : (deadB fs a).insts.length ≤ a.insts.length := h2
      omega
  have := this fs
  omega
theorem dead_valid (h : validN nm pa va fs = 0) : validN nm pa va (deadF fs) = 0 := by
  unfold validN at h ⊢
  split at h
  · cases h
  · rename_i h1
    split at h
    · rename_i h2
      have := dead_size (fs := fs)
      rw [if_neg (by omega), if_pos (dead_good h2)]
    · cases h
theorem dead_rd {v : Int} (h : Rd fs v) : Rd (deadF fs) v := by
  induction h with
  | @inst x i v hx hi hp hv h0 => exact .inst (deadF_mem.2 ⟨x, hx, rfl⟩) (List.mem_filter.2 ⟨hi, keepI_of.2 fun h => absurd h hp⟩) hp hv h0
  | @fin x hx he h0 => exact .fin (x := deadB fs x) (deadF_mem.2 ⟨x, hx, rfl⟩) he h0
  | @phi x p v hx hi hd hv h0 ih => exact .phi (deadF_mem.2 ⟨x, hx, rfl⟩) (List.mem_filter.2 ⟨hi, decide_eq_true hd⟩) ih hv h0
  | @pure x i v hx hi hp hd hv h0 ih => exact .pure (deadF_mem.2 ⟨x, hx, rfl⟩) (List.mem_filter.2 ⟨hi, keepI_of.2 fun _ => hd⟩) hp ih hv h0
theorem dead_twice : deadF (deadF fs) = deadF fs := by
  have h : ∀ x, x ∈ fs → deadB (deadF fs) (deadB fs x) = deadB fs x := by
    intro x _
    unfold deadB
    simp only [FBlk.mk.injEq, true_and, and_true]
    refine ⟨List.filter_eq_self.2 fun p hp => ?_, List.filter_eq_self.2 fun i hi => ?_⟩
    · exact decide_eq_true (dead_rd (of_decide_eq_true (List.mem_filter.1 hp).2))
    · exact keepI_of.2 fun hp => dead_rd (keepI_of.1 (List.mem_filter.1 hi).2 hp)
  unfold deadF at h ⊢
  rw [List.map_map]
  exact List.map_congr_left fun x hx => h x hx
end
end Go.Mor

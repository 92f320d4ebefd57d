/-
  How a function of SSA that comes in as an argument is opened: it is a struct of five cells, of which the last is the slice of its blocks, each six cells.
-/
import Derived.Test.YtlkpkinmmjcbcaaL13
import Derived.Test.YtlkpkinmmjcbcaaChecked
import Derived.Test.YtlkpkinmmjcbcaaD0
namespace Go.Proofs.Ytlkpkinmmjcbcaa
open Go.Mor Go.ChangeShapes Go.WideShapes Go.ChangeAt Go.RowKit Go.Deep

theorem Try.own : ownKnob Try.prog.godebug = none := by kernel_rfl
theorem Try.laidOut : laidOutB Try.prog = true := by kernel_rfl

theorem array5 {α : Type} {cs : Array α} (h : cs.size = 5) : ∃ c0 c1 c2 c3 c4, cs = #[c0, c1, c2, c3, c4] := by
  obtain ⟨l⟩ := cs
  match l, h with
  | [c0, c1, c2, c3, c4], _ => exact ⟨c0, c1, c2, c3, c4, rfl⟩

theorem list6 {α : Type} {cs : List α} (h : cs.length = 6) : ∃ c0 c1 c2 c3 c4 c5, cs = [c0, c1, c2, c3, c4, c5] := by
  match cs, h with
  | [c0, c1, c2, c3, c4, c5], _ => exact ⟨c0, c1, c2, c3, c4, c5, rfl⟩

section
variable {H : Type} {enc : TypeId × Value → H} {w : World} {base : Nat} {spare : Nat → Bool} {held : Bool}

theorem open_blocks {fuel : Nat} {v : Value} {x : DataW H × List MemPlace} (h : DataW.trod enc Try.prog w base spare held fuel 22 [v] = some x) :
    ∃ A bs c, v = .slice A (List.length bs) c ∧ (Res.blocks A bs).holds w := by
  obtain ⟨A, len, cap, rfl, _, _, hx⟩ := open_structs Try.underlying22 Try.underlying38 (by kernel_rfl) (by kernel_rfl) h
  have : ∀ i, i < len → ∃ b : SB, ∃ ad : Addr, A = some ad ∧ ∀ (j : Nat) (v : Value), b.cells[j]? = some v → w.cell? ((ad.add (i * 6)).add j) = some v := by
    intro i hi
    obtain ⟨ad, cs, hA, _, hl, hc, n, hf⟩ := hx i hi
    obtain ⟨c0, c1, c2, c3, c4, c5, rfl⟩ := list6 hl
    obtain ⟨_, _, e, g0⟩ := hf 0 _ rfl
    cases e
    obtain ⟨_, _, _, rfl⟩ := slice_of Try.underlying35 g0
    obtain ⟨_, _, e, g1⟩ := hf 1 _ rfl
    cases e
    obtain ⟨_, _, _, rfl⟩ := slice_of Try.underlying36 g1
    obtain ⟨_, _, e, g2⟩ := hf 2 _ rfl
    cases e
    obtain ⟨_, rfl, _⟩ := int_of Try.underlying3 g2
    obtain ⟨_, _, e, g3⟩ := hf 3 _ rfl
    cases e
    obtain ⟨_, rfl, _⟩ := int_of Try.underlying3 g3
    obtain ⟨_, _, e, g4⟩ := hf 4 _ rfl
    cases e
    obtain ⟨_, rfl, _⟩ := int_of Try.underlying3 g4
    obtain ⟨_, _, e, g5⟩ := hf 5 _ rfl
    cases e
    obtain ⟨_, rfl, _⟩ := int_of Try.underlying3 g5
    exact ⟨⟨_, _, _, _, _, _, _, _, _, _⟩, ad, hA, hc⟩
  obtain ⟨bs, rfl, hbs⟩ := list_of this
  refine ⟨A, bs, cap, rfl, fun i cs hi => ?_⟩
  rw [List.getElem?_map] at hi
  obtain ⟨b, hb, rfl⟩ := Option.map_eq_some_iff.1 hi
  exact hbs i b hb

theorem open_sfunc {r : Reach} {b0 : Nat} {v : Value} {d : DataW H} {p : List MemPlace} (hok : Value.okWide Try.prog w r b0 24 v) (h : DataW.Trod enc Try.prog w base spare held 24 v d p) :
    ∃ nm wk pa va A bs c, v = .agg #[nm, wk, pa, va, .slice A (List.length bs) c] ∧ (Res.blocks A bs).holds w := by
  obtain ⟨cs, rfl, hsz, n, hf⟩ := open_agg Try.underlying24 (by kernel_rfl) (by kernel_rfl) hok h
  obtain ⟨c0, c1, c2, c3, c4, rfl⟩ := array5 hsz
  obtain ⟨_, _, e, g⟩ := hf 4 _ rfl
  cases e
  obtain ⟨A, bs, c, rfl, hb⟩ := open_blocks g
  exact ⟨_, _, _, _, A, bs, c, rfl, hb⟩
end
end Go.Proofs.Ytlkpkinmmjcbcaa
